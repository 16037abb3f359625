/- The document's queues: a bucket, moving. -/
import Derived.Test.YteeckkkbmlkkiaaDoorWaitO
import Derived.Test.YteeckkkbmlkkiaaDoorRegT
import Derived.Laws.AppendOwn
namespace Go.Proofs.YteeckkkbmlkkiaaDoor
open Go.RowKit

/-- Who is in a bucket. -/
noncomputable def inI (L : List Sl) (N : Nat) (b : Int) : List Sl := L.filter fun s => ((bucketN s.addr N : Nat) : Int) == b

set_option maxRecDepth 100000 in
set_option maxHeartbeats 4000000 in
theorem rbucketL_any (rb : Nat) (v : Value) (L : List Sl) (N : Nat) (b : Int) (w : World) (h : DocQ w rb v L N) (hal : ∀ s ∈ L, s.addr < 18446744073709551616) (hb : -1 ≤ b ∧ b ≤ 64) :
    Calls Tryd.prog 37 #[.pointer (some ⟨rb, 0, none⟩), .int .i64 b] w fun e w' => ∃ vl, e = .returned vl ∧ w'.ownsRow w.heap.size 36 1 vl (inI L N b).length (u64c ((inI L N b).map Sl.id)) ∧ New w w' := by
  obtain ⟨g1, g2, g3⟩ := id h
  obtain ⟨ao, cap, rfl, _⟩ := owned_form g2
  have hcap := doc_cap g2
  have c1 : w.cell? ⟨rb, 0, none⟩ = some (.slice ao L.length cap) := cell_of_block g1 0
  have c2 : w.cell? ⟨rb, 1, none⟩ = some (.int .i64 N) := cell_of_block g1 1
  have l1 := lt_of_block g1
  obtain ⟨n, hn⟩ : ∃ n, L.length = n := ⟨_, rfl⟩
  rw [hn] at c1 g3 hcap
  obtain ⟨i0, hi, hz0, hz1, hz2⟩ := info_parts u64Info
  have HN := Lib.hid hn
  have HO := Lib.hid g2
  have HAL := Lib.hid hal
  clear h g1 g2 hn hal
  go_enter Tryd.func37, Tryd.ntmps37
  go_wp2_with fail
  go_loopg [5, 6] (n + 1) (fun g vl i wr => ∃ k : Nat, k ≤ n ∧ g = n + 1 - k ∧ i = .int .i64 k ∧ wr.ownsRow w.heap.size 36 1 vl (inI (L.take k) N b).length (u64c ((inI (L.take k) N b).map Sl.id)) ∧ New w wr)
  case atStart => exact ⟨0, by omega, by omega, rfl, World.ownsRow_nil _ _ _ _, Fr.refl _ _⟩
  case round =>
    obtain ⟨k, hk, rfl, rfl, hown, hnw⟩ := hrel
    have HNW := Lib.hid hnw
    have HOW := Lib.hid hown
    by_cases hlt : k < n
    · obtain ⟨t, ht⟩ : ∃ t, L[k]? = some t := ⟨L[k]'(by rw [HN.out]; exact hlt), by simp⟩
      obtain ⟨g, rfl, hg, x0, x1, x2⟩ := docq_at HO.out ht
      have hst : L.take (k + 1) = L.take k ++ [t] := by rw [List.take_add_one, ht]; rfl
      have hbk := fun w => rbucket_any t.addr N w g3.1 (by omega) (HAL.out t (List.mem_of_getElem? ht))
      have q1 : (0 : Int) ≤ (k : Int) := by omega
      have q2 : (k : Int) < (n : Int) := by omega
      have d1 : wr.cell? ⟨rb, 0, none⟩ = some (.slice (some ⟨g, 0, none⟩) n cap) := (hnw.cell l1 id 0).trans c1
      have d2 : wr.cell? ⟨rb, 1, none⟩ = some (.int .i64 N) := (hnw.cell l1 id 1).trans c2
      have y0 : wr.cell? ⟨g, k * 3, none⟩ = some (.int .u64 t.id) := (hnw.cell hg id _).trans x0
      have y1 : wr.cell? ⟨g, k * 3 + 1, none⟩ = some (.int .u64 t.addr) := (hnw.cell hg id _).trans x1
      have lr : rb < wr.heap.size := Nat.lt_of_lt_of_le l1 hnw.size
      have lg : g < wr.heap.size := Nat.lt_of_lt_of_le hg hnw.size
      have hin : inI (L.take (k + 1)) N b = inI (L.take k) N b ++ inI [t] N b := by unfold inI; rw [hst, List.filter_append]
      have hone : ((((bucketN t.addr N : Nat) : Int) == b) = true → inI [t] N b = [t]) ∧ ((((bucketN t.addr N : Nat) : Int) == b) = false → inI [t] N b = []) := by
        unfold inI
        exact ⟨fun e => by simp only [List.filter_cons, e, if_true, List.filter_nil], fun e => by simp only [List.filter_cons, e, Bool.false_eq_true, if_false, List.filter_nil]⟩
      generalize bucketN t.addr N = j at hbk hone
      have HIN := Lib.hid hin
      have HONE := Lib.hid hone
      have HBK := Lib.hid hbk
      clear hnw hown hst hbk ht x0 x1 x2 hin hone
      have hlk : (inI (L.take k) N b).length ≤ n := by unfold inI; exact Nat.le_trans (List.length_filter_le _ _) (by rw [List.length_take, HN.out]; omega)
      go_wp2_with fail
      have s0 : wr.drew.cell? ⟨rb, 0, none⟩ = some (.slice (some ⟨g, 0, none⟩) n cap) ∧ wr.drew.cell? ⟨rb, 1, none⟩ = some (.int .i64 N) ∧ wr.drew.cell? ⟨g, k * 3 + 1, none⟩ = some (.int .u64 t.addr) := ⟨d1, d2, y1⟩
      refine heldStart (fun W => W.cell? ⟨rb, 0, none⟩ = some (.slice (some ⟨g, 0, none⟩) n cap) ∧ W.cell? ⟨rb, 1, none⟩ = some (.int .i64 N) ∧ W.cell? ⟨g, k * 3 + 1, none⟩ = some (.int .u64 t.addr)) (by kernel_rfl) ?_
      have hd := show New wr wr.drew from (Fr.refl _ _).drew
      have HOD := Lib.hid (own_kept HOW.out hd (fun _ _ => id))
      have HND := Lib.hid (HNW.out.trans hd)
      have y0' : wr.drew.cell? ⟨g, k * 3, none⟩ = some (.int .u64 t.id) := y0
      have lr' : rb < wr.drew.heap.size := lr
      have lg' : g < wr.drew.heap.size := lg
      clear hd HOW HNW y0 y1 d1 d2 lr lg
      generalize wr.drew = V0 at s0 HOD HND y0' lr' lg' ⊢
      refine wpAnyH_take (i := 0) (v := ?_) rfl (by kernel_rfl) (by kernel_rfl) (by kernel_rfl) (fun _ _ _ h => h) (Or.inl ⟨by rfl, ?_⟩) s0 ?_
      rotate_left
      · intro w hSw; first | (obtain ⟨s1, s2, s3, s4, s5, s6, s7⟩ := hSw; go_simp; rfl) | (obtain ⟨s1, s2, s3⟩ := hSw; go_simp; rfl) | (obtain ⟨s1, s2⟩ := hSw; go_simp; rfl) | (have s1 := hSw; go_simp; rfl)
      go_simp
      refine wpAnyH_take (i := 1) (v := ?_) rfl (by kernel_rfl) (by kernel_rfl) (by kernel_rfl) (fun _ _ _ h => h) (Or.inl ⟨by rfl, ?_⟩) s0 ?_
      rotate_left
      · intro w hSw; first | (obtain ⟨s1, s2, s3, s4, s5, s6, s7⟩ := hSw; go_simp; rfl) | (obtain ⟨s1, s2, s3⟩ := hSw; go_simp; rfl) | (obtain ⟨s1, s2⟩ := hSw; go_simp; rfl) | (have s1 := hSw; go_simp; rfl)
      go_simp
      refine wpAnyH_take (i := 2) (v := ?_) rfl (by kernel_rfl) (by kernel_rfl) (by kernel_rfl) (fun _ _ _ h => h) (Or.inl ⟨by rfl, ?_⟩) s0 ?_
      rotate_left
      · intro w hSw; first | (obtain ⟨s1, s2, s3, s4, s5, s6, s7⟩ := hSw; go_simp; rfl) | (obtain ⟨s1, s2, s3⟩ := hSw; go_simp; rfl) | (obtain ⟨s1, s2⟩ := hSw; go_simp; rfl) | (have s1 := hSw; go_simp; rfl)
      go_simp
      refine wpAnyH_take (i := 3) (v := ?_) rfl (by kernel_rfl) (by kernel_rfl) (by kernel_rfl) (fun _ _ _ h => h) (Or.inl ⟨by rfl, ?_⟩) s0 ?_
      rotate_left
      · intro w hSw; first | (obtain ⟨s1, s2, s3, s4, s5, s6, s7⟩ := hSw; go_simp; rfl) | (obtain ⟨s1, s2, s3⟩ := hSw; go_simp; rfl) | (obtain ⟨s1, s2⟩ := hSw; go_simp; rfl) | (have s1 := hSw; go_simp; rfl)
      go_simp
      refine wpAnyH_take (i := 4) (v := ?_) rfl (by kernel_rfl) (by kernel_rfl) (by kernel_rfl) (fun _ _ _ h => h) (Or.inl ⟨by rfl, ?_⟩) s0 ?_
      rotate_left
      · intro w hSw; first | (obtain ⟨s1, s2, s3, s4, s5, s6, s7⟩ := hSw; go_simp; rfl) | (obtain ⟨s1, s2, s3⟩ := hSw; go_simp; rfl) | (obtain ⟨s1, s2⟩ := hSw; go_simp; rfl) | (have s1 := hSw; go_simp; rfl)
      go_simp
      refine wpAnyH_take (i := 5) (v := ?_) rfl (by kernel_rfl) (by kernel_rfl) (by kernel_rfl) (fun _ _ _ h => h) (Or.inl ⟨by rfl, ?_⟩) s0 ?_
      rotate_left
      · intro w hSw; first | (obtain ⟨s1, s2, s3, s4, s5, s6, s7⟩ := hSw; go_simp; rfl) | (obtain ⟨s1, s2, s3⟩ := hSw; go_simp; rfl) | (obtain ⟨s1, s2⟩ := hSw; go_simp; rfl) | (have s1 := hSw; go_simp; rfl)
      go_simp
      refine wpAnyH_take (i := 6) (v := ?_) rfl (by kernel_rfl) (by kernel_rfl) (by kernel_rfl) (fun _ _ _ h => h) (Or.inl ⟨by rfl, ?_⟩) s0 ?_
      rotate_left
      · intro w hSw; first | (obtain ⟨s1, s2, s3, s4, s5, s6, s7⟩ := hSw; go_simp; rfl) | (obtain ⟨s1, s2, s3⟩ := hSw; go_simp; rfl) | (obtain ⟨s1, s2⟩ := hSw; go_simp; rfl) | (have s1 := hSw; go_simp; rfl)
      go_simp
      refine wpAnyH_take (i := 7) (v := ?_) rfl (by kernel_rfl) (by kernel_rfl) (by kernel_rfl) (fun _ _ _ h => h) (Or.inl ⟨by rfl, ?_⟩) s0 ?_
      rotate_left
      · intro w hSw; first | (obtain ⟨s1, s2, s3, s4, s5, s6, s7⟩ := hSw; go_simp; rfl) | (obtain ⟨s1, s2, s3⟩ := hSw; go_simp; rfl) | (obtain ⟨s1, s2⟩ := hSw; go_simp; rfl) | (have s1 := hSw; go_simp; rfl)
      go_simp
      refine wpAnyH_take (i := 8) (v := ?_) rfl (by kernel_rfl) (by kernel_rfl) (by kernel_rfl) (fun _ _ _ h => h) (Or.inl ⟨by rfl, ?_⟩) s0 ?_
      rotate_left
      · intro w hSw; first | (obtain ⟨s1, s2, s3, s4, s5, s6, s7⟩ := hSw; go_simp; rfl) | (obtain ⟨s1, s2, s3⟩ := hSw; go_simp; rfl) | (obtain ⟨s1, s2⟩ := hSw; go_simp; rfl) | (have s1 := hSw; go_simp; rfl)
      go_simp
      refine wpAnyH_take (i := 9) (v := ?_) rfl (by kernel_rfl) (by kernel_rfl) (by kernel_rfl) (fun _ _ _ h => h) (Or.inl ⟨by rfl, ?_⟩) s0 ?_
      rotate_left
      · intro w hSw; first | (obtain ⟨s1, s2, s3, s4, s5, s6, s7⟩ := hSw; go_simp; rfl) | (obtain ⟨s1, s2, s3⟩ := hSw; go_simp; rfl) | (obtain ⟨s1, s2⟩ := hSw; go_simp; rfl) | (have s1 := hSw; go_simp; rfl)
      go_simp
      refine wpAnyH_take (i := 10) (v := ?_) rfl (by kernel_rfl) (by kernel_rfl) (by kernel_rfl) (fun _ _ _ h => h) (Or.inl ⟨by rfl, ?_⟩) s0 ?_
      rotate_left
      · intro w hSw; first | (obtain ⟨s1, s2, s3, s4, s5, s6, s7⟩ := hSw; go_simp; rfl) | (obtain ⟨s1, s2, s3⟩ := hSw; go_simp; rfl) | (obtain ⟨s1, s2⟩ := hSw; go_simp; rfl) | (have s1 := hSw; go_simp; rfl)
      go_simp
      refine wpAnyH_take (i := 11) (v := ?_) rfl (by kernel_rfl) (by kernel_rfl) (by kernel_rfl) (fun _ _ _ h => h) (Or.inl ⟨by rfl, ?_⟩) s0 ?_
      rotate_left
      · intro w hSw; first | (obtain ⟨s1, s2, s3, s4, s5, s6, s7⟩ := hSw; go_simp; rfl) | (obtain ⟨s1, s2, s3⟩ := hSw; go_simp; rfl) | (obtain ⟨s1, s2⟩ := hSw; go_simp; rfl) | (have s1 := hSw; go_simp; rfl)
      go_simp
      refine wpAnyH_take (i := 13) (v := ?_) rfl (by kernel_rfl) (by kernel_rfl) (by kernel_rfl) (fun _ _ _ h => h) (Or.inl ⟨by rfl, ?_⟩) s0 ?_
      rotate_left
      · intro w hSw; first | (obtain ⟨s1, s2, s3, s4, s5, s6, s7⟩ := hSw; go_simp; rfl) | (obtain ⟨s1, s2, s3⟩ := hSw; go_simp; rfl) | (obtain ⟨s1, s2⟩ := hSw; go_simp; rfl) | (have s1 := hSw; go_simp; rfl)
      go_simp
      refine heldOne (i := 12) (by kernel_rfl) rfl (by rfl) (fun K hK => ?_)
      go_simp
      refine (HBK.out V0).mono ?_
      rintro e w3 ⟨rfl, rfl⟩
      refine hK.out _ _ s0 ?_
      clear hK K
      cases hjb : ((j : Int) == b) with
      | true =>
        have HI := Lib.hid (HONE.out.1 hjb)
        refine wpAnyH_take (i := 14) (v := ?_) rfl (by kernel_rfl) (by kernel_rfl) (by kernel_rfl) (fun _ _ _ h => h) (Or.inl ⟨by rfl, ?_⟩) s0 ?_
        rotate_left
        · intro w hSw; first | (obtain ⟨s1, s2, s3, s4, s5, s6, s7⟩ := hSw; go_simp; rfl) | (obtain ⟨s1, s2, s3⟩ := hSw; go_simp; rfl) | (obtain ⟨s1, s2⟩ := hSw; go_simp; rfl) | (have s1 := hSw; go_simp; rfl)
        go_simp
        refine wpAnyH_done (by kernel_rfl) ?_ _
        obtain ⟨d1, d2, _⟩ := s0
        have hap : ∀ kk, u5.ownBlock = some kk → w.heap.size ≤ kk := fun kk e => (HOD.out.lt kk e).1
        have HAP := Lib.hid hap
        clear hap
        go_wp2_with (at_builtin; go_loud (refine wpList_append_own _ rfl (.tmp 31) (.tmp 40) 33 rfl w.heap.size 36 i0 _ 1 8 Tryd.underlying33 hi hz0 hz1 hz2 rfl (by decide) _ _ _ rfl (HOD.out.alloc _) ⟨V0.heap.size, 0, none⟩ 1 1 [.int .u64 t.id] rfl rfl (Arr.add (Arr.new _ _ _)) (by simp [Value.oneCell']) (by unfold maxLen; omega) (by omega) (by have := HND.out.size; simp; omega) ?_; intro v' w3 hown3 hgrow hnil; clear hnil; have f3 : Fr (fun kk => w.heap.size ≤ kk) V0 w3 := (((Fr.refl _ V0).alloc _).grown hgrow (fun kk hkk _ => HAP.out kk hkk)); have HO3 := Lib.hid hown3; have HF3 := Lib.hid f3; clear hown3 hgrow f3))
        go_roundg (n + 1 - (k + 1))
        case measure => omega
        case rel => exact ⟨k + 1, by omega, rfl, by go_num, by rw [HIN.out, HI.out, List.map_append, List.length_append]; show World.ownsRow _ _ _ _ _ _ (u64c (_ ++ [t.id])); rw [← u64c_snoc]; exact HO3.out, HND.out.then HF3.out (fun i hi e => by omega)⟩
      | false =>
        have HI := Lib.hid (HONE.out.2 hjb)
        refine wpAnyH_take (i := 14) (v := ?_) rfl (by kernel_rfl) (by kernel_rfl) (by kernel_rfl) (fun _ _ _ h => h) (Or.inl ⟨by rfl, ?_⟩) s0 ?_
        rotate_left
        · intro w hSw; first | (obtain ⟨s1, s2, s3, s4, s5, s6, s7⟩ := hSw; go_simp; rfl) | (obtain ⟨s1, s2, s3⟩ := hSw; go_simp; rfl) | (obtain ⟨s1, s2⟩ := hSw; go_simp; rfl) | (have s1 := hSw; go_simp; rfl)
        go_simp
        refine wpAnyH_done (by kernel_rfl) ?_ _
        clear s0
        go_wp2_with fail
        go_roundg (n + 1 - (k + 1))
        case measure => omega
        case rel => exact ⟨k + 1, by omega, rfl, by go_num, by rw [HIN.out, HI.out, List.append_nil]; exact HOD.out, HND.out⟩
    · obtain rfl : n = k := by omega
      rw [List.take_of_length_le (by rw [HN.out]; exact Nat.le_refl _)] at HOW
      have d1 : wr.cell? ⟨rb, 0, none⟩ = some (.slice ao n cap) := (hnw.cell l1 id 0).trans c1
      have lr : rb < wr.heap.size := Nat.lt_of_lt_of_le l1 hnw.size
      clear hnw hown
      go_wp2
      go_ret
      exact ⟨_, rfl, HOW.out, HNW.out⟩

/-- append from whatever reads, at the operation itself. -/
theorem op_append_src {P : Program} {w : World} {o : Oper} {a : Act} {K : Act → World → Prop} {Q : Exit → Act → World → Prop} (s x : Operand) (t : TypeId)
    (ho : o.op = .call { callee := .builtin .append, args := #[s, x], argTypes := #[t, t] })
    (base : Nat) (e : TypeId) (i : TypeInfo) (z : Value) (size bytes : Nat) (ht : P.underlying t = some (.slice e)) (hi : P.info? e = some i) (hz : i.zero = some z)
    (hsize : i.size = size) (hby : i.bytes = bytes) (hzs : z.cells.size = size) (hsz : 0 < size)
    (v : Value) (n : Nat) (xs : List Value) (hs : a.eval s = v) (hown : w.ownsRow base e size v n xs)
    (A : Option Addr) (m c : Nat) (news : List Value) (hx : a.eval x = .slice A m c) (hl : news.length = m * size) (hr : Src w A m c news) (h1 : ∀ u ∈ news, u.oneCell' = true)
    (h63 : n + m ≤ maxLen) (hbytes : (n + m) * bytes ≤ 140737488355328) (hbase : base ≤ w.heap.size)
    (h : ∀ v' w', w'.ownsRow base e size v' (n + m) (xs ++ news) → w.grownBy w' v.ownBlock → K (a.put o.dst v') w') : o.wp P a w K Q := by
  rcases hr with ⟨rfl, rfl, rfl, rfl⟩ | ⟨ad, rfl, _, hc⟩
  · have hrun := run_append_owned_none (P := P) (w := w) base t o.type e i size ht hi v n xs hown
    unfold Oper.wp
    simp [execOp, ho, resolve, invoke, builtin, hs, hx, hrun, Result.andThen]
    exact h v w (by simpa using hown) (World.grownBy.refl w _)
  · exact wp_append_own w s x t ho base e i z size bytes ht hi hz hsize hby hzs hsz v n xs hs hown ad m c news hx hl hc h1 h63 hbytes hbase (fun v' w' a1 a2 _ => h v' w' a1 a2)
theorem src_block {w : World} {b m c : Nat} {T : TypeId} {z : Nat × Nat} {cs : Array Value} (h : w.heap[b]? = some (.cells cs T z)) : Src w (some ⟨b, 0, none⟩) m c cs.toList := by
  refine .inr ⟨_, rfl, lt_of_block h, fun j u hj => ?_⟩
  rw [show (⟨b, 0, none⟩ : Addr).add j = ⟨b, j, none⟩ by unfold Addr.add; by_cases e : j = 0 <;> simp [e]]
  rw [cell_of_block h]
  simpa using hj

section
variable {w : World} {rb N a b : Nat} {v : Value} {L : List Sl}
def moveQ (L : List Sl) (o : Option Sl) (b : Nat) : List Sl := match o with | some s => without L s.id ++ [{ s with addr := b }] | none => L

set_option maxRecDepth 100000 in
set_option maxHeartbeats 4000000 in
theorem rmove_any (h : DocQ w rb v L N) (hml : ∀ s ∈ L, s.mask < 18446744073709551616) (ho : Once L) (hl : L.length < 10000) :
    Calls Tryd.prog 30 #[.pointer (some ⟨rb, 0, none⟩), .int .u64 a, .int .u64 b] w fun e w' => e = .returned (idV (anyOf L a)) ∧ ∃ v', DocQ w' rb v' (moveQ L (anyOf L a) b) N ∧ (∀ k, v'.ownBlock = some k → v.ownBlock = some k ∨ w.heap.size ≤ k) ∧ Fr (· = rb) w w' := by
  have hf := rfirst_any rb v L N a 0 true w h (by omega) hml
  unfold anyOf
  rcases find_cases L (fitsB a 0 true) with ⟨h1, h2, _⟩ | ⟨q, s, h1, h2, h3, _⟩
  · rw [h2, show (((0 : Nat)) : Int) = 0 from rfl] at hf
    rw [h1]
    have HF := Lib.hid hf
    have H := Lib.hid h
    clear hf h h1 h2
    go_enter Tryd.func30, Tryd.ntmps30
    go_wp2_with fail
    refine HF.out.mono ?_
    rintro e w1 ⟨rfl, rfl⟩
    rw [show placeI none = -1 from rfl]
    go_wp2
    go_ret2
    exact ⟨rfl, v, H.out, fun k hk => .inl hk, Fr.refl _ _⟩
  · rw [h2, show (((0 : Nat)) : Int) = 0 from rfl] at hf
    rw [h1]
    have HF := Lib.hid hf
    have HO := Lib.hid (rout_ok rb v L N q s w h h3)
    have HSP := Lib.hid (without_split ho h3)
    have hlen : (L.take q ++ L.drop (q + 1)).length < 9999 + 1 := by
      have := (List.getElem?_eq_some_iff.1 h3).1
      rw [List.length_append, List.length_take, List.length_drop]; omega
    have HLEN := Lib.hid hlen
    have l0 := lt_of_block h.hd
    clear hf h h1 h2 h3 ho hlen hml
    go_enter Tryd.func30, Tryd.ntmps30
    go_wp2_with fail
    refine HF.out.mono ?_
    rintro e w1 ⟨rfl, rfl⟩
    rw [show placeI (some q) = (q : Int) from rfl]
    go_wp2_with fail
    refine HO.out.mono ?_
    rintro e w1 ⟨rfl, v1, hr, ho, hf⟩
    have HR := Lib.hid hr
    have HW := Lib.hid ho
    have HFR := Lib.hid hf
    have hz1 := hf.size
    clear hr ho hf HF HO
    go_upto_region 6 with fail
    obtain ⟨W0, hW0⟩ : ∃ W0, w1.alloc (.cells #[.int .u64 s.id, .int .u64 b, .int .u64 s.mask] 102) = W0 := ⟨_, rfl⟩
    have n0 : New w1 W0 := by rw [← hW0]; exact (Fr.refl _ _).alloc _
    have hb0 : W0.heap[w1.heap.size]? = some (.cells #[.int .u64 s.id, .int .u64 b, .int .u64 s.mask] 102 (0, 0)) := by rw [← hW0]; exact block_alloc_new _ _
    rw [hW0]
    obtain ⟨B, hB⟩ : ∃ B, w1.heap.size = B := ⟨_, rfl⟩
    obtain ⟨L1, hL1⟩ : ∃ L1, L.take q ++ L.drop (q + 1) = L1 := ⟨_, rfl⟩
    rw [hL1] at HR HLEN HSP
    have hr0 := HR.out.new (n0.trans (show New W0 W0.drew from (Fr.refl _ _).drew))
    have hbd : W0.drew.heap[w1.heap.size]? = some (.cells #[.int .u64 s.id, .int .u64 b, .int .u64 s.mask] 102 (0, 0)) := hb0
    have f0 : Fr (· = rb) w W0.drew := HFR.out.then (n0.trans (show New W0 W0.drew from (Fr.refl _ _).drew)) (fun _ _ h => h.elim)
    rw [hB] at hbd ⊢
    obtain ⟨ao1, cap1, rfl, _⟩ := owned_form hr0.own
    obtain ⟨n1, hn1⟩ : ∃ n1, L1.length = n1 := ⟨_, rfl⟩
    have hd0 := hr0.hd
    have hsrc := Src.of_own hr0.own
    have hcap := doc_cap hr0.own
    rw [hn1] at hd0 hsrc hcap
    have HNF := Lib.hid (show ∀ ad, ao1 = some ad → ¬ W0.drew.heap.size ≤ ad.block from fun ad e => by
      subst e
      have := (hr0.own.lt _ rfl).2
      omega)
    obtain ⟨i0, hi, hz0, hz1, hz2⟩ := info_parts rwInfo
    have hn1l : n1 < 9999 + 1 := by rw [← hn1]; exact HLEN.out
    have HLE := Lib.hid (show (L1.flatMap waC).length = n1 * 3 by rw [len_flatMap waC 3 waC_len, hn1])
    have HR0 := Lib.hid hr0
    have HBD := Lib.hid hbd
    have HD0 := Lib.hid hd0
    have HSRC := Lib.hid hsrc
    have F0 := Lib.hid f0
    have HN1 := Lib.hid hn1
    have hBw : w.heap.size ≤ B := by omega
    clear hW0 n0 hb0 hr0 hbd f0 hd0 hsrc hn1 HR HFR HLEN hL1 hB HW
    refine heldStart (fun W => W.cell? ⟨B, 0, none⟩ = some (.int .u64 s.id) ∧ W.cell? ⟨B, 1, none⟩ = some (.int .u64 b) ∧ W.cell? ⟨B, 2, none⟩ = some (.int .u64 s.mask)) (by kernel_rfl) ?_
    generalize W0.drew = V0 at HNF HR0 HBD HD0 HSRC F0 ⊢
    obtain ⟨Z, hZ1, hZ2, hnf⟩ : ∃ Z, V0.heap.size ≤ Z ∧ Z ≤ V0.heap.size ∧ ∀ ad, ao1 = some ad → ¬ Z ≤ ad.block := ⟨_, Nat.le_refl _, Nat.le_refl _, HNF.out⟩
    clear HNF
    have HNF := Lib.hid hnf
    clear hnf
    have lr := lt_of_block HD0.out
    have lB := lt_of_block HBD.out
    have HS := Lib.hid (show ∀ V', Fr (fun k => Z ≤ k) V0 V' → V'.cell? ⟨B, 0, none⟩ = some (.int .u64 s.id) ∧ V'.cell? ⟨B, 1, none⟩ = some (.int .u64 b) ∧ V'.cell? ⟨B, 2, none⟩ = some (.int .u64 s.mask) from fun V' f =>
      ⟨(f.cell lB (by omega) _).trans (cell_of_block HBD.out 0), (f.cell lB (by omega) _).trans (cell_of_block HBD.out 1), (f.cell lB (by omega) _).trans (cell_of_block HBD.out 2)⟩)
    have HC := Lib.hid (show ∀ V', Fr (fun k => Z ≤ k) V0 V' → V'.cell? ⟨rb, 0, none⟩ = some (.slice ao1 n1 cap1) ∧ V'.frozen? ⟨rb, 0, none⟩ = false from fun V' f =>
      ⟨(f.cell lr (by omega) _).trans (cell_of_block HD0.out 0), (f.frozen lr (by omega) _).trans (free_of_block HD0.out 0)⟩)
    have s0 := HS.out V0 (Fr.refl _ _)
    refine wpAnyH_take (i := 0) (v := ?_) rfl (by kernel_rfl) (by kernel_rfl) (by kernel_rfl) (fun _ _ _ h => h) (Or.inl ⟨by rfl, ?_⟩) s0 ?_
    rotate_left
    · intro w hSw; first | (obtain ⟨s1, s2, s3, s4, s5, s6, s7⟩ := hSw; go_simp; rfl) | (obtain ⟨s1, s2, s3⟩ := hSw; go_simp; rfl) | (obtain ⟨s1, s2⟩ := hSw; go_simp; rfl) | (have s1 := hSw; go_simp; rfl)
    go_simp
    refine wpAnyH_take (i := 2) (v := ?_) rfl (by kernel_rfl) (by kernel_rfl) (by kernel_rfl) (fun _ _ _ h => h) (Or.inl ⟨by rfl, ?_⟩) s0 ?_
    rotate_left
    · intro w hSw; first | (obtain ⟨s1, s2, s3, s4, s5, s6, s7⟩ := hSw; go_simp; rfl) | (obtain ⟨s1, s2, s3⟩ := hSw; go_simp; rfl) | (obtain ⟨s1, s2⟩ := hSw; go_simp; rfl) | (have s1 := hSw; go_simp; rfl)
    go_simp
    refine wpAnyH_take (i := 3) (v := ?_) rfl (by kernel_rfl) (by kernel_rfl) (by kernel_rfl) (fun _ _ _ h => h) (Or.inl ⟨by rfl, ?_⟩) s0 ?_
    rotate_left
    · intro w hSw; first | (obtain ⟨s1, s2, s3, s4, s5, s6, s7⟩ := hSw; go_simp; rfl) | (obtain ⟨s1, s2, s3⟩ := hSw; go_simp; rfl) | (obtain ⟨s1, s2⟩ := hSw; go_simp; rfl) | (have s1 := hSw; go_simp; rfl)
    go_simp
    refine wpAnyH_take (i := 4) (v := ?_) rfl (by kernel_rfl) (by kernel_rfl) (by kernel_rfl) (fun _ _ _ h => h) (Or.inl ⟨by rfl, ?_⟩) s0 ?_
    rotate_left
    · intro w hSw; first | (obtain ⟨s1, s2, s3, s4, s5, s6, s7⟩ := hSw; go_simp; rfl) | (obtain ⟨s1, s2, s3⟩ := hSw; go_simp; rfl) | (obtain ⟨s1, s2⟩ := hSw; go_simp; rfl) | (have s1 := hSw; go_simp; rfl)
    go_simp
    refine wpAnyH_take (i := 7) (v := ?_) rfl (by kernel_rfl) (by kernel_rfl) (by kernel_rfl) (fun _ _ _ h => h) (Or.inl ⟨by rfl, ?_⟩) s0 ?_
    rotate_left
    · intro w hSw; first | (obtain ⟨s1, s2, s3, s4, s5, s6, s7⟩ := hSw; go_simp; rfl) | (obtain ⟨s1, s2, s3⟩ := hSw; go_simp; rfl) | (obtain ⟨s1, s2⟩ := hSw; go_simp; rfl) | (have s1 := hSw; go_simp; rfl)
    go_simp
    clear s0
    have HFIN := Lib.hid (fun (V3 : World) (v3 : Value) (f3 : Fr (fun k => Z ≤ k) V0 V3) (hown3 : V3.ownsRow Z 102 3 v3 (n1 + 1) (L1.flatMap waC ++ #[Value.int .u64 s.id, .int .u64 b, .int .u64 s.mask].toList)) =>
      show DocQ (V3.setCell ⟨rb, 0, none⟩ v3) rb v3 (moveQ L (some s) b) N ∧ (∀ k, v3.ownBlock = some k → w.heap.size ≤ k) ∧ Fr (· = rb) w (V3.setCell ⟨rb, 0, none⟩ v3) from by
        have hm : moveQ L (some s) b = L1 ++ [{ s with addr := b }] := by show without L s.id ++ _ = _; rw [HSP.out]
        have hb3 := (f3.block rb lr (by omega)).trans HD0.out
        have e := docq_end (L' := moveQ L (some s) b) HR0.out (f3.mono (fun k hk e => absurd e (by omega))) hb3 hZ1 (by rw [hm, List.flatMap_append]; simpa [waC] using hown3) (by rw [hm, List.length_append, HN1.out]; rfl) (by rw [hm, List.length_append, HN1.out]; show n1 + 1 ≤ 10000; omega)
        exact ⟨e.1, fun k hk => by have := e.2.1 k hk; have := F0.out.size; omega, F0.out.trans e.2.2⟩)
    have HF := Lib.hid (show Fr (fun k => Z ≤ k) V0 V0 from Fr.refl _ _)
    have hEE : ∀ (X : World), Fr (fun k => Z ≤ k) V0 X → (X.alloc (.cells #[] 102)).ownsRow Z 102 3 (.slice (some ⟨X.heap.size, 0, none⟩) 0 0) 0 [] := fun X f =>
      (World.ownsRow_lit (base := X.heap.size) (e := 102) (size := 3) X #[] 0 (Nat.le_refl _) (Nat.zero_le _) rfl).mono (by have := f.size; omega)
    have HEE := Lib.hid hEE
    clear hEE
    refine heldThree (i := 1) (j := 5) (k := 8) (by kernel_rfl) rfl rfl rfl (by rfl) (by rfl) (by rfl) (fun K hK => ?_) (fun K hK => ?_) (fun K hK => ?_)
    · go_simp
      have HEMP := Lib.hid (HEE.out V0 HF.out)
      obtain ⟨X1, hX1⟩ : ∃ X, V0.alloc (.cells #[] 102) = X := ⟨_, rfl⟩
      rw [hX1] at HEMP ⊢
      have HF := Lib.hid (show Fr (fun k => Z ≤ k) V0 X1 by rw [← hX1]; exact HF.out.alloc _)
      obtain ⟨E, hE⟩ : ∃ E, V0.heap.size = E := ⟨_, rfl⟩
      have HSZ := Lib.hid (show X1.heap.size = E + 1 by rw [← hX1, World.size_alloc, hE])
      rw [hE] at HEMP ⊢
      clear hX1
      refine hK.out _ _ (HS.out _ HF.out) ?_
      clear hK K
      refine heldEither (i := 5) (j := 8) (by kernel_rfl) rfl rfl (by rfl) (by rfl) (fun K hK => ?_) (fun K hK => ?_)
      · obtain ⟨y1, y2⟩ := HC.out _ HF.out
        go_simp
        clear y1 y2
        refine hK.out _ _ (HS.out _ HF.out) ?_
        clear hK K
        refine heldEither (i := 6) (j := 8) (by kernel_rfl) rfl rfl (by rfl) (by rfl) (fun K hK => ?_) (fun K hK => ?_)
        · refine op_append_src (.tmp 21) (.tmp 25) 78 rfl Z 102 i0 _ 3 24 Tryd.underlying78 hi hz0 hz1 hz2 rfl (by decide) _ _ _ rfl HEMP.out ao1 n1 cap1 (L1.flatMap waC) rfl HLE.out (HSRC.out.keep HF.out HNF.out) (waC_one _) (by unfold maxLen; omega) (by omega) (by have := HF.out.size; omega) ?_
          intro v2 V2 hown2 hgrow2
          rw [List.nil_append, Nat.zero_add] at hown2
          have HOWN := Lib.hid hown2
          have HF := Lib.hid (HF.out.grown hgrow2 (fun k hk _ => (HEMP.out.lt k hk).1))
          clear hown2 hgrow2
          refine hK.out _ _ (HS.out _ HF.out) ?_
          clear hK K
          refine heldOne (i := 8) (by kernel_rfl) rfl (by rfl) (fun K hK => ?_)
          go_simp
          obtain ⟨X4, hX4⟩ : ∃ X, V2.alloc (.cells #[Value.int .u64 s.id, .int .u64 b, .int .u64 s.mask] 102) = X := ⟨_, rfl⟩
          have HROW := Lib.hid (show Arr X4 V2.heap.size #[Value.int .u64 s.id, .int .u64 b, .int .u64 s.mask].toList by rw [← hX4]; exact Arr.new _ _ _)
          rw [hX4]
          have HF' := Lib.hid (show Fr (fun k => Z ≤ k) V0 X4 by rw [← hX4]; exact HF.out.alloc _)
          have HOWN := Lib.hid (show X4.ownsRow Z 102 3 v2 n1 (L1.flatMap waC) by rw [← hX4]; exact HOWN.out.alloc _)
          obtain ⟨R, hR⟩ : ∃ R, V2.heap.size = R := ⟨_, rfl⟩
          have HRLT : R < X4.heap.size := by rw [← hX4, World.size_alloc, hR]; omega
          rw [hR] at HROW ⊢
          clear hX4
          clear HF
          have HF := HF'
          clear HF'
          refine hK.out _ _ (HS.out _ HF.out) ?_
          clear hK K
          refine heldOne (i := 9) (by kernel_rfl) rfl (by rfl) (fun K hK => ?_)
          refine op_append_src (.tmp 26) (.tmp 28) 78 rfl Z 102 i0 _ 3 24 Tryd.underlying78 hi hz0 hz1 hz2 rfl (by decide) _ _ _ rfl HOWN.out (some ⟨R, 0, none⟩) 1 1 _ rfl rfl (.inr ⟨_, rfl, HROW.out.lt, HROW.out.add⟩) (by simp [Value.oneCell']) (by unfold maxLen; omega) (by omega) (by have := HF.out.size; omega) ?_
          intro v4 V4 hown4 hgrow4
          have f4 : Fr (fun k => Z ≤ k) V0 V4 := HF.out.grown hgrow4 (fun k hk _ => (HOWN.out.lt k hk).1)
          obtain ⟨ao4, cap4, rfl, _⟩ := owned_form hown4
          have HO4 := Lib.hid hown4
          have HF4 := Lib.hid f4
          obtain ⟨z1, z2⟩ := HC.out _ f4
          have l4 : rb < V4.heap.size := Nat.lt_of_lt_of_le lr f4.size
          refine hK.out _ _ (HS.out _ f4) ?_
          clear hK K hown4 hgrow4 f4 HROW HOWN HF
          have s4 := HS.out V4 HF4.out
          refine wpAnyH_take (i := 10) (v := ?_) rfl (by kernel_rfl) (by kernel_rfl) (by kernel_rfl) (fun _ _ _ h => h) (Or.inl ⟨by rfl, ?_⟩) s4 ?_
          rotate_left
          · intro w hSw; first | (obtain ⟨s1, s2, s3, s4, s5, s6, s7⟩ := hSw; go_simp; rfl) | (obtain ⟨s1, s2, s3⟩ := hSw; go_simp; rfl) | (obtain ⟨s1, s2⟩ := hSw; go_simp; rfl) | (have s1 := hSw; go_simp; rfl)
          go_simp
          refine wpAnyH_take (i := 11) (v := ?_) rfl (by kernel_rfl) (by kernel_rfl) (by kernel_rfl) (fun _ _ _ h => h) (Or.inl ⟨by rfl, ?_⟩) s4 ?_
          rotate_left
          · intro w hSw; first | (obtain ⟨s1, s2, s3, s4, s5, s6, s7⟩ := hSw; go_simp; rfl) | (obtain ⟨s1, s2, s3⟩ := hSw; go_simp; rfl) | (obtain ⟨s1, s2⟩ := hSw; go_simp; rfl) | (have s1 := hSw; go_simp; rfl)
          go_simp
          clear s4
          refine heldOne (i := 12) (by kernel_rfl) rfl (by rfl) (fun K hK => ?_)
          go_simp
          obtain ⟨d1, d2, d3⟩ := HFIN.out V4 _ HF4.out HO4.out
          have s5 := HS.out V4 HF4.out
          rw [← cell_set_ne (o := 0) (.slice ao4 (n1 + 1 : Nat) cap4) (.inl (show rb ≠ B by omega)), ← cell_set_ne (b := rb) (o := 0) (o' := 1) (.slice ao4 (n1 + 1 : Nat) cap4) (.inl (show rb ≠ B by omega)), ← cell_set_ne (b := rb) (o := 0) (o' := 2) (.slice ao4 (n1 + 1 : Nat) cap4) (.inl (show rb ≠ B by omega))] at s5
          obtain ⟨W5, hW5⟩ : ∃ W5, V4.setCell ⟨rb, 0, none⟩ (.slice ao4 (n1 + 1 : Nat) cap4) = W5 := ⟨_, rfl⟩
          have lB5 : B < W5.heap.size := by rw [← hW5, World.size_setCell]; have := HF4.out.size; omega
          rw [hW5] at d1 d3 s5 ⊢
          clear hW5
          refine hK.out _ _ s5 ?_
          clear hK K z1 z2
          refine wpAnyH_done (by kernel_rfl) ?_ _
          obtain ⟨s5, _, _⟩ := s5
          have D1 := Lib.hid d1
          have D2 := Lib.hid d2
          have D3 := Lib.hid d3
          clear d1 d2 d3
          go_wp2
          go_ret2
          exact ⟨rfl, _, D1.out, fun k hk => .inr (D2.out k hk), D3.out⟩
        · go_simp
          obtain ⟨X3, hX3⟩ : ∃ X, X1.alloc (.cells #[Value.int .u64 s.id, .int .u64 b, .int .u64 s.mask] 102) = X := ⟨_, rfl⟩
          have HROW := Lib.hid (show Arr X3 X1.heap.size #[Value.int .u64 s.id, .int .u64 b, .int .u64 s.mask].toList by rw [← hX3]; exact Arr.new _ _ _)
          rw [hX3]
          have HF' := Lib.hid (show Fr (fun k => Z ≤ k) V0 X3 by rw [← hX3]; exact HF.out.alloc _)
          have HEMP := Lib.hid (show X3.ownsRow Z 102 3 (.slice (some ⟨E, 0, none⟩) 0 0) 0 [] by rw [← hX3]; exact HEMP.out.alloc _)
          obtain ⟨R, hR⟩ : ∃ R, X1.heap.size = R := ⟨_, rfl⟩
          have HRLT : R < X3.heap.size := by rw [← hX3, World.size_alloc, hR]; omega
          rw [hR] at HROW ⊢
          clear hX3
          have hER : E ≠ R := by have := HSZ.out; omega
          clear HF
          have HF := HF'
          clear HF'
          refine hK.out _ _ (HS.out _ HF.out) ?_
          clear hK K
          refine heldOne (i := 6) (by kernel_rfl) rfl (by rfl) (fun K hK => ?_)
          refine op_append_src (.tmp 21) (.tmp 25) 78 rfl Z 102 i0 _ 3 24 Tryd.underlying78 hi hz0 hz1 hz2 rfl (by decide) _ _ _ rfl HEMP.out ao1 n1 cap1 (L1.flatMap waC) rfl HLE.out (HSRC.out.keep HF.out HNF.out) (waC_one _) (by unfold maxLen; omega) (by omega) (by have := HF.out.size; omega) ?_
          intro v2 V2 hown2 hgrow2
          rw [List.nil_append, Nat.zero_add] at hown2
          have HOWN := Lib.hid hown2
          have HROW := Lib.hid (HROW.out.keep ((Fr.refl (· = E) X3).grown hgrow2 (fun k hk _ => by cases hk; rfl)) (Ne.symm hER))
          have HF := Lib.hid (HF.out.grown hgrow2 (fun k hk _ => (HEMP.out.lt k hk).1))
          clear hown2 hgrow2
          refine hK.out _ _ (HS.out _ HF.out) ?_
          clear hK K
          refine heldOne (i := 9) (by kernel_rfl) rfl (by rfl) (fun K hK => ?_)
          refine op_append_src (.tmp 26) (.tmp 28) 78 rfl Z 102 i0 _ 3 24 Tryd.underlying78 hi hz0 hz1 hz2 rfl (by decide) _ _ _ rfl HOWN.out (some ⟨R, 0, none⟩) 1 1 _ rfl rfl (.inr ⟨_, rfl, HROW.out.lt, HROW.out.add⟩) (by simp [Value.oneCell']) (by unfold maxLen; omega) (by omega) (by have := HF.out.size; omega) ?_
          intro v4 V4 hown4 hgrow4
          have f4 : Fr (fun k => Z ≤ k) V0 V4 := HF.out.grown hgrow4 (fun k hk _ => (HOWN.out.lt k hk).1)
          obtain ⟨ao4, cap4, rfl, _⟩ := owned_form hown4
          have HO4 := Lib.hid hown4
          have HF4 := Lib.hid f4
          obtain ⟨z1, z2⟩ := HC.out _ f4
          have l4 : rb < V4.heap.size := Nat.lt_of_lt_of_le lr f4.size
          refine hK.out _ _ (HS.out _ f4) ?_
          clear hK K hown4 hgrow4 f4 HROW HOWN HF
          have s4 := HS.out V4 HF4.out
          refine wpAnyH_take (i := 10) (v := ?_) rfl (by kernel_rfl) (by kernel_rfl) (by kernel_rfl) (fun _ _ _ h => h) (Or.inl ⟨by rfl, ?_⟩) s4 ?_
          rotate_left
          · intro w hSw; first | (obtain ⟨s1, s2, s3, s4, s5, s6, s7⟩ := hSw; go_simp; rfl) | (obtain ⟨s1, s2, s3⟩ := hSw; go_simp; rfl) | (obtain ⟨s1, s2⟩ := hSw; go_simp; rfl) | (have s1 := hSw; go_simp; rfl)
          go_simp
          refine wpAnyH_take (i := 11) (v := ?_) rfl (by kernel_rfl) (by kernel_rfl) (by kernel_rfl) (fun _ _ _ h => h) (Or.inl ⟨by rfl, ?_⟩) s4 ?_
          rotate_left
          · intro w hSw; first | (obtain ⟨s1, s2, s3, s4, s5, s6, s7⟩ := hSw; go_simp; rfl) | (obtain ⟨s1, s2, s3⟩ := hSw; go_simp; rfl) | (obtain ⟨s1, s2⟩ := hSw; go_simp; rfl) | (have s1 := hSw; go_simp; rfl)
          go_simp
          clear s4
          refine heldOne (i := 12) (by kernel_rfl) rfl (by rfl) (fun K hK => ?_)
          go_simp
          obtain ⟨d1, d2, d3⟩ := HFIN.out V4 _ HF4.out HO4.out
          have s5 := HS.out V4 HF4.out
          rw [← cell_set_ne (o := 0) (.slice ao4 (n1 + 1 : Nat) cap4) (.inl (show rb ≠ B by omega)), ← cell_set_ne (b := rb) (o := 0) (o' := 1) (.slice ao4 (n1 + 1 : Nat) cap4) (.inl (show rb ≠ B by omega)), ← cell_set_ne (b := rb) (o := 0) (o' := 2) (.slice ao4 (n1 + 1 : Nat) cap4) (.inl (show rb ≠ B by omega))] at s5
          obtain ⟨W5, hW5⟩ : ∃ W5, V4.setCell ⟨rb, 0, none⟩ (.slice ao4 (n1 + 1 : Nat) cap4) = W5 := ⟨_, rfl⟩
          have lB5 : B < W5.heap.size := by rw [← hW5, World.size_setCell]; have := HF4.out.size; omega
          rw [hW5] at d1 d3 s5 ⊢
          clear hW5
          refine hK.out _ _ s5 ?_
          clear hK K z1 z2
          refine wpAnyH_done (by kernel_rfl) ?_ _
          obtain ⟨s5, _, _⟩ := s5
          have D1 := Lib.hid d1
          have D2 := Lib.hid d2
          have D3 := Lib.hid d3
          clear d1 d2 d3
          go_wp2
          go_ret2
          exact ⟨rfl, _, D1.out, fun k hk => .inr (D2.out k hk), D3.out⟩
      · go_simp
        obtain ⟨X2, hX2⟩ : ∃ X, X1.alloc (.cells #[Value.int .u64 s.id, .int .u64 b, .int .u64 s.mask] 102) = X := ⟨_, rfl⟩
        have HROW := Lib.hid (show Arr X2 X1.heap.size #[Value.int .u64 s.id, .int .u64 b, .int .u64 s.mask].toList by rw [← hX2]; exact Arr.new _ _ _)
        rw [hX2]
        have HF' := Lib.hid (show Fr (fun k => Z ≤ k) V0 X2 by rw [← hX2]; exact HF.out.alloc _)
        have HEMP := Lib.hid (show X2.ownsRow Z 102 3 (.slice (some ⟨E, 0, none⟩) 0 0) 0 [] by rw [← hX2]; exact HEMP.out.alloc _)
        obtain ⟨R, hR⟩ : ∃ R, X1.heap.size = R := ⟨_, rfl⟩
        have HRLT : R < X2.heap.size := by rw [← hX2, World.size_alloc, hR]; omega
        rw [hR] at HROW ⊢
        clear hX2
        have hER : E ≠ R := by have := HSZ.out; omega
        clear HF
        have HF := HF'
        clear HF'
        refine hK.out _ _ (HS.out _ HF.out) ?_
        clear hK K
        refine heldOne (i := 5) (by kernel_rfl) rfl (by rfl) (fun K hK => ?_)
        obtain ⟨y1, y2⟩ := HC.out _ HF.out
        go_simp
        clear y1 y2
        refine hK.out _ _ (HS.out _ HF.out) ?_
        clear hK K
        refine heldOne (i := 6) (by kernel_rfl) rfl (by rfl) (fun K hK => ?_)
        refine op_append_src (.tmp 21) (.tmp 25) 78 rfl Z 102 i0 _ 3 24 Tryd.underlying78 hi hz0 hz1 hz2 rfl (by decide) _ _ _ rfl HEMP.out ao1 n1 cap1 (L1.flatMap waC) rfl HLE.out (HSRC.out.keep HF.out HNF.out) (waC_one _) (by unfold maxLen; omega) (by omega) (by have := HF.out.size; omega) ?_
        intro v2 V2 hown2 hgrow2
        rw [List.nil_append, Nat.zero_add] at hown2
        have HOWN := Lib.hid hown2
        have HROW := Lib.hid (HROW.out.keep ((Fr.refl (· = E) X2).grown hgrow2 (fun k hk _ => by cases hk; rfl)) (Ne.symm hER))
        have HF := Lib.hid (HF.out.grown hgrow2 (fun k hk _ => (HEMP.out.lt k hk).1))
        clear hown2 hgrow2
        refine hK.out _ _ (HS.out _ HF.out) ?_
        clear hK K
        refine heldOne (i := 9) (by kernel_rfl) rfl (by rfl) (fun K hK => ?_)
        refine op_append_src (.tmp 26) (.tmp 28) 78 rfl Z 102 i0 _ 3 24 Tryd.underlying78 hi hz0 hz1 hz2 rfl (by decide) _ _ _ rfl HOWN.out (some ⟨R, 0, none⟩) 1 1 _ rfl rfl (.inr ⟨_, rfl, HROW.out.lt, HROW.out.add⟩) (by simp [Value.oneCell']) (by unfold maxLen; omega) (by omega) (by have := HF.out.size; omega) ?_
        intro v4 V4 hown4 hgrow4
        have f4 : Fr (fun k => Z ≤ k) V0 V4 := HF.out.grown hgrow4 (fun k hk _ => (HOWN.out.lt k hk).1)
        obtain ⟨ao4, cap4, rfl, _⟩ := owned_form hown4
        have HO4 := Lib.hid hown4
        have HF4 := Lib.hid f4
        obtain ⟨z1, z2⟩ := HC.out _ f4
        have l4 : rb < V4.heap.size := Nat.lt_of_lt_of_le lr f4.size
        refine hK.out _ _ (HS.out _ f4) ?_
        clear hK K hown4 hgrow4 f4 HROW HOWN HF
        have s4 := HS.out V4 HF4.out
        refine wpAnyH_take (i := 10) (v := ?_) rfl (by kernel_rfl) (by kernel_rfl) (by kernel_rfl) (fun _ _ _ h => h) (Or.inl ⟨by rfl, ?_⟩) s4 ?_
        rotate_left
        · intro w hSw; first | (obtain ⟨s1, s2, s3, s4, s5, s6, s7⟩ := hSw; go_simp; rfl) | (obtain ⟨s1, s2, s3⟩ := hSw; go_simp; rfl) | (obtain ⟨s1, s2⟩ := hSw; go_simp; rfl) | (have s1 := hSw; go_simp; rfl)
        go_simp
        refine wpAnyH_take (i := 11) (v := ?_) rfl (by kernel_rfl) (by kernel_rfl) (by kernel_rfl) (fun _ _ _ h => h) (Or.inl ⟨by rfl, ?_⟩) s4 ?_
        rotate_left
        · intro w hSw; first | (obtain ⟨s1, s2, s3, s4, s5, s6, s7⟩ := hSw; go_simp; rfl) | (obtain ⟨s1, s2, s3⟩ := hSw; go_simp; rfl) | (obtain ⟨s1, s2⟩ := hSw; go_simp; rfl) | (have s1 := hSw; go_simp; rfl)
        go_simp
        clear s4
        refine heldOne (i := 12) (by kernel_rfl) rfl (by rfl) (fun K hK => ?_)
        go_simp
        obtain ⟨d1, d2, d3⟩ := HFIN.out V4 _ HF4.out HO4.out
        have s5 := HS.out V4 HF4.out
        rw [← cell_set_ne (o := 0) (.slice ao4 (n1 + 1 : Nat) cap4) (.inl (show rb ≠ B by omega)), ← cell_set_ne (b := rb) (o := 0) (o' := 1) (.slice ao4 (n1 + 1 : Nat) cap4) (.inl (show rb ≠ B by omega)), ← cell_set_ne (b := rb) (o := 0) (o' := 2) (.slice ao4 (n1 + 1 : Nat) cap4) (.inl (show rb ≠ B by omega))] at s5
        obtain ⟨W5, hW5⟩ : ∃ W5, V4.setCell ⟨rb, 0, none⟩ (.slice ao4 (n1 + 1 : Nat) cap4) = W5 := ⟨_, rfl⟩
        have lB5 : B < W5.heap.size := by rw [← hW5, World.size_setCell]; have := HF4.out.size; omega
        rw [hW5] at d1 d3 s5 ⊢
        clear hW5
        refine hK.out _ _ s5 ?_
        clear hK K z1 z2
        refine wpAnyH_done (by kernel_rfl) ?_ _
        obtain ⟨s5, _, _⟩ := s5
        have D1 := Lib.hid d1
        have D2 := Lib.hid d2
        have D3 := Lib.hid d3
        clear d1 d2 d3
        go_wp2
        go_ret2
        exact ⟨rfl, _, D1.out, fun k hk => .inr (D2.out k hk), D3.out⟩
    · obtain ⟨y1, y2⟩ := HC.out _ HF.out
      go_simp
      clear y1 y2
      refine hK.out _ _ (HS.out _ HF.out) ?_
      clear hK K
      refine heldEither (i := 1) (j := 8) (by kernel_rfl) rfl rfl (by rfl) (by rfl) (fun K hK => ?_) (fun K hK => ?_)
      · go_simp
        have HEMP := Lib.hid (HEE.out V0 HF.out)
        obtain ⟨X2, hX2⟩ : ∃ X, V0.alloc (.cells #[] 102) = X := ⟨_, rfl⟩
        rw [hX2] at HEMP ⊢
        have HF := Lib.hid (show Fr (fun k => Z ≤ k) V0 X2 by rw [← hX2]; exact HF.out.alloc _)
        obtain ⟨E, hE⟩ : ∃ E, V0.heap.size = E := ⟨_, rfl⟩
        have HSZ := Lib.hid (show X2.heap.size = E + 1 by rw [← hX2, World.size_alloc, hE])
        rw [hE] at HEMP ⊢
        clear hX2
        refine hK.out _ _ (HS.out _ HF.out) ?_
        clear hK K
        refine heldEither (i := 6) (j := 8) (by kernel_rfl) rfl rfl (by rfl) (by rfl) (fun K hK => ?_) (fun K hK => ?_)
        · refine op_append_src (.tmp 21) (.tmp 25) 78 rfl Z 102 i0 _ 3 24 Tryd.underlying78 hi hz0 hz1 hz2 rfl (by decide) _ _ _ rfl HEMP.out ao1 n1 cap1 (L1.flatMap waC) rfl HLE.out (HSRC.out.keep HF.out HNF.out) (waC_one _) (by unfold maxLen; omega) (by omega) (by have := HF.out.size; omega) ?_
          intro v2 V2 hown2 hgrow2
          rw [List.nil_append, Nat.zero_add] at hown2
          have HOWN := Lib.hid hown2
          have HF := Lib.hid (HF.out.grown hgrow2 (fun k hk _ => (HEMP.out.lt k hk).1))
          clear hown2 hgrow2
          refine hK.out _ _ (HS.out _ HF.out) ?_
          clear hK K
          refine heldOne (i := 8) (by kernel_rfl) rfl (by rfl) (fun K hK => ?_)
          go_simp
          obtain ⟨X4, hX4⟩ : ∃ X, V2.alloc (.cells #[Value.int .u64 s.id, .int .u64 b, .int .u64 s.mask] 102) = X := ⟨_, rfl⟩
          have HROW := Lib.hid (show Arr X4 V2.heap.size #[Value.int .u64 s.id, .int .u64 b, .int .u64 s.mask].toList by rw [← hX4]; exact Arr.new _ _ _)
          rw [hX4]
          have HF' := Lib.hid (show Fr (fun k => Z ≤ k) V0 X4 by rw [← hX4]; exact HF.out.alloc _)
          have HOWN := Lib.hid (show X4.ownsRow Z 102 3 v2 n1 (L1.flatMap waC) by rw [← hX4]; exact HOWN.out.alloc _)
          obtain ⟨R, hR⟩ : ∃ R, V2.heap.size = R := ⟨_, rfl⟩
          have HRLT : R < X4.heap.size := by rw [← hX4, World.size_alloc, hR]; omega
          rw [hR] at HROW ⊢
          clear hX4
          clear HF
          have HF := HF'
          clear HF'
          refine hK.out _ _ (HS.out _ HF.out) ?_
          clear hK K
          refine heldOne (i := 9) (by kernel_rfl) rfl (by rfl) (fun K hK => ?_)
          refine op_append_src (.tmp 26) (.tmp 28) 78 rfl Z 102 i0 _ 3 24 Tryd.underlying78 hi hz0 hz1 hz2 rfl (by decide) _ _ _ rfl HOWN.out (some ⟨R, 0, none⟩) 1 1 _ rfl rfl (.inr ⟨_, rfl, HROW.out.lt, HROW.out.add⟩) (by simp [Value.oneCell']) (by unfold maxLen; omega) (by omega) (by have := HF.out.size; omega) ?_
          intro v4 V4 hown4 hgrow4
          have f4 : Fr (fun k => Z ≤ k) V0 V4 := HF.out.grown hgrow4 (fun k hk _ => (HOWN.out.lt k hk).1)
          obtain ⟨ao4, cap4, rfl, _⟩ := owned_form hown4
          have HO4 := Lib.hid hown4
          have HF4 := Lib.hid f4
          obtain ⟨z1, z2⟩ := HC.out _ f4
          have l4 : rb < V4.heap.size := Nat.lt_of_lt_of_le lr f4.size
          refine hK.out _ _ (HS.out _ f4) ?_
          clear hK K hown4 hgrow4 f4 HROW HOWN HF
          have s4 := HS.out V4 HF4.out
          refine wpAnyH_take (i := 10) (v := ?_) rfl (by kernel_rfl) (by kernel_rfl) (by kernel_rfl) (fun _ _ _ h => h) (Or.inl ⟨by rfl, ?_⟩) s4 ?_
          rotate_left
          · intro w hSw; first | (obtain ⟨s1, s2, s3, s4, s5, s6, s7⟩ := hSw; go_simp; rfl) | (obtain ⟨s1, s2, s3⟩ := hSw; go_simp; rfl) | (obtain ⟨s1, s2⟩ := hSw; go_simp; rfl) | (have s1 := hSw; go_simp; rfl)
          go_simp
          refine wpAnyH_take (i := 11) (v := ?_) rfl (by kernel_rfl) (by kernel_rfl) (by kernel_rfl) (fun _ _ _ h => h) (Or.inl ⟨by rfl, ?_⟩) s4 ?_
          rotate_left
          · intro w hSw; first | (obtain ⟨s1, s2, s3, s4, s5, s6, s7⟩ := hSw; go_simp; rfl) | (obtain ⟨s1, s2, s3⟩ := hSw; go_simp; rfl) | (obtain ⟨s1, s2⟩ := hSw; go_simp; rfl) | (have s1 := hSw; go_simp; rfl)
          go_simp
          clear s4
          refine heldOne (i := 12) (by kernel_rfl) rfl (by rfl) (fun K hK => ?_)
          go_simp
          obtain ⟨d1, d2, d3⟩ := HFIN.out V4 _ HF4.out HO4.out
          have s5 := HS.out V4 HF4.out
          rw [← cell_set_ne (o := 0) (.slice ao4 (n1 + 1 : Nat) cap4) (.inl (show rb ≠ B by omega)), ← cell_set_ne (b := rb) (o := 0) (o' := 1) (.slice ao4 (n1 + 1 : Nat) cap4) (.inl (show rb ≠ B by omega)), ← cell_set_ne (b := rb) (o := 0) (o' := 2) (.slice ao4 (n1 + 1 : Nat) cap4) (.inl (show rb ≠ B by omega))] at s5
          obtain ⟨W5, hW5⟩ : ∃ W5, V4.setCell ⟨rb, 0, none⟩ (.slice ao4 (n1 + 1 : Nat) cap4) = W5 := ⟨_, rfl⟩
          have lB5 : B < W5.heap.size := by rw [← hW5, World.size_setCell]; have := HF4.out.size; omega
          rw [hW5] at d1 d3 s5 ⊢
          clear hW5
          refine hK.out _ _ s5 ?_
          clear hK K z1 z2
          refine wpAnyH_done (by kernel_rfl) ?_ _
          obtain ⟨s5, _, _⟩ := s5
          have D1 := Lib.hid d1
          have D2 := Lib.hid d2
          have D3 := Lib.hid d3
          clear d1 d2 d3
          go_wp2
          go_ret2
          exact ⟨rfl, _, D1.out, fun k hk => .inr (D2.out k hk), D3.out⟩
        · go_simp
          obtain ⟨X3, hX3⟩ : ∃ X, X2.alloc (.cells #[Value.int .u64 s.id, .int .u64 b, .int .u64 s.mask] 102) = X := ⟨_, rfl⟩
          have HROW := Lib.hid (show Arr X3 X2.heap.size #[Value.int .u64 s.id, .int .u64 b, .int .u64 s.mask].toList by rw [← hX3]; exact Arr.new _ _ _)
          rw [hX3]
          have HF' := Lib.hid (show Fr (fun k => Z ≤ k) V0 X3 by rw [← hX3]; exact HF.out.alloc _)
          have HEMP := Lib.hid (show X3.ownsRow Z 102 3 (.slice (some ⟨E, 0, none⟩) 0 0) 0 [] by rw [← hX3]; exact HEMP.out.alloc _)
          obtain ⟨R, hR⟩ : ∃ R, X2.heap.size = R := ⟨_, rfl⟩
          have HRLT : R < X3.heap.size := by rw [← hX3, World.size_alloc, hR]; omega
          rw [hR] at HROW ⊢
          clear hX3
          have hER : E ≠ R := by have := HSZ.out; omega
          clear HF
          have HF := HF'
          clear HF'
          refine hK.out _ _ (HS.out _ HF.out) ?_
          clear hK K
          refine heldOne (i := 6) (by kernel_rfl) rfl (by rfl) (fun K hK => ?_)
          refine op_append_src (.tmp 21) (.tmp 25) 78 rfl Z 102 i0 _ 3 24 Tryd.underlying78 hi hz0 hz1 hz2 rfl (by decide) _ _ _ rfl HEMP.out ao1 n1 cap1 (L1.flatMap waC) rfl HLE.out (HSRC.out.keep HF.out HNF.out) (waC_one _) (by unfold maxLen; omega) (by omega) (by have := HF.out.size; omega) ?_
          intro v2 V2 hown2 hgrow2
          rw [List.nil_append, Nat.zero_add] at hown2
          have HOWN := Lib.hid hown2
          have HROW := Lib.hid (HROW.out.keep ((Fr.refl (· = E) X3).grown hgrow2 (fun k hk _ => by cases hk; rfl)) (Ne.symm hER))
          have HF := Lib.hid (HF.out.grown hgrow2 (fun k hk _ => (HEMP.out.lt k hk).1))
          clear hown2 hgrow2
          refine hK.out _ _ (HS.out _ HF.out) ?_
          clear hK K
          refine heldOne (i := 9) (by kernel_rfl) rfl (by rfl) (fun K hK => ?_)
          refine op_append_src (.tmp 26) (.tmp 28) 78 rfl Z 102 i0 _ 3 24 Tryd.underlying78 hi hz0 hz1 hz2 rfl (by decide) _ _ _ rfl HOWN.out (some ⟨R, 0, none⟩) 1 1 _ rfl rfl (.inr ⟨_, rfl, HROW.out.lt, HROW.out.add⟩) (by simp [Value.oneCell']) (by unfold maxLen; omega) (by omega) (by have := HF.out.size; omega) ?_
          intro v4 V4 hown4 hgrow4
          have f4 : Fr (fun k => Z ≤ k) V0 V4 := HF.out.grown hgrow4 (fun k hk _ => (HOWN.out.lt k hk).1)
          obtain ⟨ao4, cap4, rfl, _⟩ := owned_form hown4
          have HO4 := Lib.hid hown4
          have HF4 := Lib.hid f4
          obtain ⟨z1, z2⟩ := HC.out _ f4
          have l4 : rb < V4.heap.size := Nat.lt_of_lt_of_le lr f4.size
          refine hK.out _ _ (HS.out _ f4) ?_
          clear hK K hown4 hgrow4 f4 HROW HOWN HF
          have s4 := HS.out V4 HF4.out
          refine wpAnyH_take (i := 10) (v := ?_) rfl (by kernel_rfl) (by kernel_rfl) (by kernel_rfl) (fun _ _ _ h => h) (Or.inl ⟨by rfl, ?_⟩) s4 ?_
          rotate_left
          · intro w hSw; first | (obtain ⟨s1, s2, s3, s4, s5, s6, s7⟩ := hSw; go_simp; rfl) | (obtain ⟨s1, s2, s3⟩ := hSw; go_simp; rfl) | (obtain ⟨s1, s2⟩ := hSw; go_simp; rfl) | (have s1 := hSw; go_simp; rfl)
          go_simp
          refine wpAnyH_take (i := 11) (v := ?_) rfl (by kernel_rfl) (by kernel_rfl) (by kernel_rfl) (fun _ _ _ h => h) (Or.inl ⟨by rfl, ?_⟩) s4 ?_
          rotate_left
          · intro w hSw; first | (obtain ⟨s1, s2, s3, s4, s5, s6, s7⟩ := hSw; go_simp; rfl) | (obtain ⟨s1, s2, s3⟩ := hSw; go_simp; rfl) | (obtain ⟨s1, s2⟩ := hSw; go_simp; rfl) | (have s1 := hSw; go_simp; rfl)
          go_simp
          clear s4
          refine heldOne (i := 12) (by kernel_rfl) rfl (by rfl) (fun K hK => ?_)
          go_simp
          obtain ⟨d1, d2, d3⟩ := HFIN.out V4 _ HF4.out HO4.out
          have s5 := HS.out V4 HF4.out
          rw [← cell_set_ne (o := 0) (.slice ao4 (n1 + 1 : Nat) cap4) (.inl (show rb ≠ B by omega)), ← cell_set_ne (b := rb) (o := 0) (o' := 1) (.slice ao4 (n1 + 1 : Nat) cap4) (.inl (show rb ≠ B by omega)), ← cell_set_ne (b := rb) (o := 0) (o' := 2) (.slice ao4 (n1 + 1 : Nat) cap4) (.inl (show rb ≠ B by omega))] at s5
          obtain ⟨W5, hW5⟩ : ∃ W5, V4.setCell ⟨rb, 0, none⟩ (.slice ao4 (n1 + 1 : Nat) cap4) = W5 := ⟨_, rfl⟩
          have lB5 : B < W5.heap.size := by rw [← hW5, World.size_setCell]; have := HF4.out.size; omega
          rw [hW5] at d1 d3 s5 ⊢
          clear hW5
          refine hK.out _ _ s5 ?_
          clear hK K z1 z2
          refine wpAnyH_done (by kernel_rfl) ?_ _
          obtain ⟨s5, _, _⟩ := s5
          have D1 := Lib.hid d1
          have D2 := Lib.hid d2
          have D3 := Lib.hid d3
          clear d1 d2 d3
          go_wp2
          go_ret2
          exact ⟨rfl, _, D1.out, fun k hk => .inr (D2.out k hk), D3.out⟩
      · go_simp
        obtain ⟨X2, hX2⟩ : ∃ X, V0.alloc (.cells #[Value.int .u64 s.id, .int .u64 b, .int .u64 s.mask] 102) = X := ⟨_, rfl⟩
        have HROW := Lib.hid (show Arr X2 V0.heap.size #[Value.int .u64 s.id, .int .u64 b, .int .u64 s.mask].toList by rw [← hX2]; exact Arr.new _ _ _)
        rw [hX2]
        have HF' := Lib.hid (show Fr (fun k => Z ≤ k) V0 X2 by rw [← hX2]; exact HF.out.alloc _)
        obtain ⟨R, hR⟩ : ∃ R, V0.heap.size = R := ⟨_, rfl⟩
        have HRLT : R < X2.heap.size := by rw [← hX2, World.size_alloc, hR]; omega
        rw [hR] at HROW ⊢
        clear hX2
        clear HF
        have HF := HF'
        clear HF'
        refine hK.out _ _ (HS.out _ HF.out) ?_
        clear hK K
        refine heldOne (i := 1) (by kernel_rfl) rfl (by rfl) (fun K hK => ?_)
        go_simp
        have HEMP := Lib.hid (HEE.out X2 HF.out)
        obtain ⟨X3, hX3⟩ : ∃ X, X2.alloc (.cells #[] 102) = X := ⟨_, rfl⟩
        rw [hX3] at HEMP ⊢
        have HF := Lib.hid (show Fr (fun k => Z ≤ k) V0 X3 by rw [← hX3]; exact HF.out.alloc _)
        have HROW := Lib.hid (show Arr X3 R #[Value.int .u64 s.id, .int .u64 b, .int .u64 s.mask].toList by rw [← hX3]; exact HROW.out.alloc _)
        obtain ⟨E, hE⟩ : ∃ E, X2.heap.size = E := ⟨_, rfl⟩
        have HSZ := Lib.hid (show X3.heap.size = E + 1 by rw [← hX3, World.size_alloc, hE])
        rw [hE] at HEMP ⊢
        clear hX3
        have hER : E ≠ R := by have := HROW.out.lt; have := HRLT; omega
        refine hK.out _ _ (HS.out _ HF.out) ?_
        clear hK K
        refine heldOne (i := 6) (by kernel_rfl) rfl (by rfl) (fun K hK => ?_)
        refine op_append_src (.tmp 21) (.tmp 25) 78 rfl Z 102 i0 _ 3 24 Tryd.underlying78 hi hz0 hz1 hz2 rfl (by decide) _ _ _ rfl HEMP.out ao1 n1 cap1 (L1.flatMap waC) rfl HLE.out (HSRC.out.keep HF.out HNF.out) (waC_one _) (by unfold maxLen; omega) (by omega) (by have := HF.out.size; omega) ?_
        intro v2 V2 hown2 hgrow2
        rw [List.nil_append, Nat.zero_add] at hown2
        have HOWN := Lib.hid hown2
        have HROW := Lib.hid (HROW.out.keep ((Fr.refl (· = E) X3).grown hgrow2 (fun k hk _ => by cases hk; rfl)) (Ne.symm hER))
        have HF := Lib.hid (HF.out.grown hgrow2 (fun k hk _ => (HEMP.out.lt k hk).1))
        clear hown2 hgrow2
        refine hK.out _ _ (HS.out _ HF.out) ?_
        clear hK K
        refine heldOne (i := 9) (by kernel_rfl) rfl (by rfl) (fun K hK => ?_)
        refine op_append_src (.tmp 26) (.tmp 28) 78 rfl Z 102 i0 _ 3 24 Tryd.underlying78 hi hz0 hz1 hz2 rfl (by decide) _ _ _ rfl HOWN.out (some ⟨R, 0, none⟩) 1 1 _ rfl rfl (.inr ⟨_, rfl, HROW.out.lt, HROW.out.add⟩) (by simp [Value.oneCell']) (by unfold maxLen; omega) (by omega) (by have := HF.out.size; omega) ?_
        intro v4 V4 hown4 hgrow4
        have f4 : Fr (fun k => Z ≤ k) V0 V4 := HF.out.grown hgrow4 (fun k hk _ => (HOWN.out.lt k hk).1)
        obtain ⟨ao4, cap4, rfl, _⟩ := owned_form hown4
        have HO4 := Lib.hid hown4
        have HF4 := Lib.hid f4
        obtain ⟨z1, z2⟩ := HC.out _ f4
        have l4 : rb < V4.heap.size := Nat.lt_of_lt_of_le lr f4.size
        refine hK.out _ _ (HS.out _ f4) ?_
        clear hK K hown4 hgrow4 f4 HROW HOWN HF
        have s4 := HS.out V4 HF4.out
        refine wpAnyH_take (i := 10) (v := ?_) rfl (by kernel_rfl) (by kernel_rfl) (by kernel_rfl) (fun _ _ _ h => h) (Or.inl ⟨by rfl, ?_⟩) s4 ?_
        rotate_left
        · intro w hSw; first | (obtain ⟨s1, s2, s3, s4, s5, s6, s7⟩ := hSw; go_simp; rfl) | (obtain ⟨s1, s2, s3⟩ := hSw; go_simp; rfl) | (obtain ⟨s1, s2⟩ := hSw; go_simp; rfl) | (have s1 := hSw; go_simp; rfl)
        go_simp
        refine wpAnyH_take (i := 11) (v := ?_) rfl (by kernel_rfl) (by kernel_rfl) (by kernel_rfl) (fun _ _ _ h => h) (Or.inl ⟨by rfl, ?_⟩) s4 ?_
        rotate_left
        · intro w hSw; first | (obtain ⟨s1, s2, s3, s4, s5, s6, s7⟩ := hSw; go_simp; rfl) | (obtain ⟨s1, s2, s3⟩ := hSw; go_simp; rfl) | (obtain ⟨s1, s2⟩ := hSw; go_simp; rfl) | (have s1 := hSw; go_simp; rfl)
        go_simp
        clear s4
        refine heldOne (i := 12) (by kernel_rfl) rfl (by rfl) (fun K hK => ?_)
        go_simp
        obtain ⟨d1, d2, d3⟩ := HFIN.out V4 _ HF4.out HO4.out
        have s5 := HS.out V4 HF4.out
        rw [← cell_set_ne (o := 0) (.slice ao4 (n1 + 1 : Nat) cap4) (.inl (show rb ≠ B by omega)), ← cell_set_ne (b := rb) (o := 0) (o' := 1) (.slice ao4 (n1 + 1 : Nat) cap4) (.inl (show rb ≠ B by omega)), ← cell_set_ne (b := rb) (o := 0) (o' := 2) (.slice ao4 (n1 + 1 : Nat) cap4) (.inl (show rb ≠ B by omega))] at s5
        obtain ⟨W5, hW5⟩ : ∃ W5, V4.setCell ⟨rb, 0, none⟩ (.slice ao4 (n1 + 1 : Nat) cap4) = W5 := ⟨_, rfl⟩
        have lB5 : B < W5.heap.size := by rw [← hW5, World.size_setCell]; have := HF4.out.size; omega
        rw [hW5] at d1 d3 s5 ⊢
        clear hW5
        refine hK.out _ _ s5 ?_
        clear hK K z1 z2
        refine wpAnyH_done (by kernel_rfl) ?_ _
        obtain ⟨s5, _, _⟩ := s5
        have D1 := Lib.hid d1
        have D2 := Lib.hid d2
        have D3 := Lib.hid d3
        clear d1 d2 d3
        go_wp2
        go_ret2
        exact ⟨rfl, _, D1.out, fun k hk => .inr (D2.out k hk), D3.out⟩
    · go_simp
      obtain ⟨X1, hX1⟩ : ∃ X, V0.alloc (.cells #[Value.int .u64 s.id, .int .u64 b, .int .u64 s.mask] 102) = X := ⟨_, rfl⟩
      have HROW := Lib.hid (show Arr X1 V0.heap.size #[Value.int .u64 s.id, .int .u64 b, .int .u64 s.mask].toList by rw [← hX1]; exact Arr.new _ _ _)
      rw [hX1]
      have HF' := Lib.hid (show Fr (fun k => Z ≤ k) V0 X1 by rw [← hX1]; exact HF.out.alloc _)
      obtain ⟨R, hR⟩ : ∃ R, V0.heap.size = R := ⟨_, rfl⟩
      have HRLT : R < X1.heap.size := by rw [← hX1, World.size_alloc, hR]; omega
      rw [hR] at HROW ⊢
      clear hX1
      clear HF
      have HF := HF'
      clear HF'
      refine hK.out _ _ (HS.out _ HF.out) ?_
      clear hK K
      refine heldEither (i := 1) (j := 5) (by kernel_rfl) rfl rfl (by rfl) (by rfl) (fun K hK => ?_) (fun K hK => ?_)
      · go_simp
        have HEMP := Lib.hid (HEE.out X1 HF.out)
        obtain ⟨X2, hX2⟩ : ∃ X, X1.alloc (.cells #[] 102) = X := ⟨_, rfl⟩
        rw [hX2] at HEMP ⊢
        have HF := Lib.hid (show Fr (fun k => Z ≤ k) V0 X2 by rw [← hX2]; exact HF.out.alloc _)
        have HROW := Lib.hid (show Arr X2 R #[Value.int .u64 s.id, .int .u64 b, .int .u64 s.mask].toList by rw [← hX2]; exact HROW.out.alloc _)
        obtain ⟨E, hE⟩ : ∃ E, X1.heap.size = E := ⟨_, rfl⟩
        have HSZ := Lib.hid (show X2.heap.size = E + 1 by rw [← hX2, World.size_alloc, hE])
        rw [hE] at HEMP ⊢
        clear hX2
        have hER : E ≠ R := by have := HROW.out.lt; have := HRLT; omega
        refine hK.out _ _ (HS.out _ HF.out) ?_
        clear hK K
        refine heldOne (i := 5) (by kernel_rfl) rfl (by rfl) (fun K hK => ?_)
        obtain ⟨y1, y2⟩ := HC.out _ HF.out
        go_simp
        clear y1 y2
        refine hK.out _ _ (HS.out _ HF.out) ?_
        clear hK K
        refine heldOne (i := 6) (by kernel_rfl) rfl (by rfl) (fun K hK => ?_)
        refine op_append_src (.tmp 21) (.tmp 25) 78 rfl Z 102 i0 _ 3 24 Tryd.underlying78 hi hz0 hz1 hz2 rfl (by decide) _ _ _ rfl HEMP.out ao1 n1 cap1 (L1.flatMap waC) rfl HLE.out (HSRC.out.keep HF.out HNF.out) (waC_one _) (by unfold maxLen; omega) (by omega) (by have := HF.out.size; omega) ?_
        intro v2 V2 hown2 hgrow2
        rw [List.nil_append, Nat.zero_add] at hown2
        have HOWN := Lib.hid hown2
        have HROW := Lib.hid (HROW.out.keep ((Fr.refl (· = E) X2).grown hgrow2 (fun k hk _ => by cases hk; rfl)) (Ne.symm hER))
        have HF := Lib.hid (HF.out.grown hgrow2 (fun k hk _ => (HEMP.out.lt k hk).1))
        clear hown2 hgrow2
        refine hK.out _ _ (HS.out _ HF.out) ?_
        clear hK K
        refine heldOne (i := 9) (by kernel_rfl) rfl (by rfl) (fun K hK => ?_)
        refine op_append_src (.tmp 26) (.tmp 28) 78 rfl Z 102 i0 _ 3 24 Tryd.underlying78 hi hz0 hz1 hz2 rfl (by decide) _ _ _ rfl HOWN.out (some ⟨R, 0, none⟩) 1 1 _ rfl rfl (.inr ⟨_, rfl, HROW.out.lt, HROW.out.add⟩) (by simp [Value.oneCell']) (by unfold maxLen; omega) (by omega) (by have := HF.out.size; omega) ?_
        intro v4 V4 hown4 hgrow4
        have f4 : Fr (fun k => Z ≤ k) V0 V4 := HF.out.grown hgrow4 (fun k hk _ => (HOWN.out.lt k hk).1)
        obtain ⟨ao4, cap4, rfl, _⟩ := owned_form hown4
        have HO4 := Lib.hid hown4
        have HF4 := Lib.hid f4
        obtain ⟨z1, z2⟩ := HC.out _ f4
        have l4 : rb < V4.heap.size := Nat.lt_of_lt_of_le lr f4.size
        refine hK.out _ _ (HS.out _ f4) ?_
        clear hK K hown4 hgrow4 f4 HROW HOWN HF
        have s4 := HS.out V4 HF4.out
        refine wpAnyH_take (i := 10) (v := ?_) rfl (by kernel_rfl) (by kernel_rfl) (by kernel_rfl) (fun _ _ _ h => h) (Or.inl ⟨by rfl, ?_⟩) s4 ?_
        rotate_left
        · intro w hSw; first | (obtain ⟨s1, s2, s3, s4, s5, s6, s7⟩ := hSw; go_simp; rfl) | (obtain ⟨s1, s2, s3⟩ := hSw; go_simp; rfl) | (obtain ⟨s1, s2⟩ := hSw; go_simp; rfl) | (have s1 := hSw; go_simp; rfl)
        go_simp
        refine wpAnyH_take (i := 11) (v := ?_) rfl (by kernel_rfl) (by kernel_rfl) (by kernel_rfl) (fun _ _ _ h => h) (Or.inl ⟨by rfl, ?_⟩) s4 ?_
        rotate_left
        · intro w hSw; first | (obtain ⟨s1, s2, s3, s4, s5, s6, s7⟩ := hSw; go_simp; rfl) | (obtain ⟨s1, s2, s3⟩ := hSw; go_simp; rfl) | (obtain ⟨s1, s2⟩ := hSw; go_simp; rfl) | (have s1 := hSw; go_simp; rfl)
        go_simp
        clear s4
        refine heldOne (i := 12) (by kernel_rfl) rfl (by rfl) (fun K hK => ?_)
        go_simp
        obtain ⟨d1, d2, d3⟩ := HFIN.out V4 _ HF4.out HO4.out
        have s5 := HS.out V4 HF4.out
        rw [← cell_set_ne (o := 0) (.slice ao4 (n1 + 1 : Nat) cap4) (.inl (show rb ≠ B by omega)), ← cell_set_ne (b := rb) (o := 0) (o' := 1) (.slice ao4 (n1 + 1 : Nat) cap4) (.inl (show rb ≠ B by omega)), ← cell_set_ne (b := rb) (o := 0) (o' := 2) (.slice ao4 (n1 + 1 : Nat) cap4) (.inl (show rb ≠ B by omega))] at s5
        obtain ⟨W5, hW5⟩ : ∃ W5, V4.setCell ⟨rb, 0, none⟩ (.slice ao4 (n1 + 1 : Nat) cap4) = W5 := ⟨_, rfl⟩
        have lB5 : B < W5.heap.size := by rw [← hW5, World.size_setCell]; have := HF4.out.size; omega
        rw [hW5] at d1 d3 s5 ⊢
        clear hW5
        refine hK.out _ _ s5 ?_
        clear hK K z1 z2
        refine wpAnyH_done (by kernel_rfl) ?_ _
        obtain ⟨s5, _, _⟩ := s5
        have D1 := Lib.hid d1
        have D2 := Lib.hid d2
        have D3 := Lib.hid d3
        clear d1 d2 d3
        go_wp2
        go_ret2
        exact ⟨rfl, _, D1.out, fun k hk => .inr (D2.out k hk), D3.out⟩
      · obtain ⟨y1, y2⟩ := HC.out _ HF.out
        go_simp
        clear y1 y2
        refine hK.out _ _ (HS.out _ HF.out) ?_
        clear hK K
        refine heldOne (i := 1) (by kernel_rfl) rfl (by rfl) (fun K hK => ?_)
        go_simp
        have HEMP := Lib.hid (HEE.out X1 HF.out)
        obtain ⟨X3, hX3⟩ : ∃ X, X1.alloc (.cells #[] 102) = X := ⟨_, rfl⟩
        rw [hX3] at HEMP ⊢
        have HF := Lib.hid (show Fr (fun k => Z ≤ k) V0 X3 by rw [← hX3]; exact HF.out.alloc _)
        have HROW := Lib.hid (show Arr X3 R #[Value.int .u64 s.id, .int .u64 b, .int .u64 s.mask].toList by rw [← hX3]; exact HROW.out.alloc _)
        obtain ⟨E, hE⟩ : ∃ E, X1.heap.size = E := ⟨_, rfl⟩
        have HSZ := Lib.hid (show X3.heap.size = E + 1 by rw [← hX3, World.size_alloc, hE])
        rw [hE] at HEMP ⊢
        clear hX3
        have hER : E ≠ R := by have := HROW.out.lt; have := HRLT; omega
        refine hK.out _ _ (HS.out _ HF.out) ?_
        clear hK K
        refine heldOne (i := 6) (by kernel_rfl) rfl (by rfl) (fun K hK => ?_)
        refine op_append_src (.tmp 21) (.tmp 25) 78 rfl Z 102 i0 _ 3 24 Tryd.underlying78 hi hz0 hz1 hz2 rfl (by decide) _ _ _ rfl HEMP.out ao1 n1 cap1 (L1.flatMap waC) rfl HLE.out (HSRC.out.keep HF.out HNF.out) (waC_one _) (by unfold maxLen; omega) (by omega) (by have := HF.out.size; omega) ?_
        intro v2 V2 hown2 hgrow2
        rw [List.nil_append, Nat.zero_add] at hown2
        have HOWN := Lib.hid hown2
        have HROW := Lib.hid (HROW.out.keep ((Fr.refl (· = E) X3).grown hgrow2 (fun k hk _ => by cases hk; rfl)) (Ne.symm hER))
        have HF := Lib.hid (HF.out.grown hgrow2 (fun k hk _ => (HEMP.out.lt k hk).1))
        clear hown2 hgrow2
        refine hK.out _ _ (HS.out _ HF.out) ?_
        clear hK K
        refine heldOne (i := 9) (by kernel_rfl) rfl (by rfl) (fun K hK => ?_)
        refine op_append_src (.tmp 26) (.tmp 28) 78 rfl Z 102 i0 _ 3 24 Tryd.underlying78 hi hz0 hz1 hz2 rfl (by decide) _ _ _ rfl HOWN.out (some ⟨R, 0, none⟩) 1 1 _ rfl rfl (.inr ⟨_, rfl, HROW.out.lt, HROW.out.add⟩) (by simp [Value.oneCell']) (by unfold maxLen; omega) (by omega) (by have := HF.out.size; omega) ?_
        intro v4 V4 hown4 hgrow4
        have f4 : Fr (fun k => Z ≤ k) V0 V4 := HF.out.grown hgrow4 (fun k hk _ => (HOWN.out.lt k hk).1)
        obtain ⟨ao4, cap4, rfl, _⟩ := owned_form hown4
        have HO4 := Lib.hid hown4
        have HF4 := Lib.hid f4
        obtain ⟨z1, z2⟩ := HC.out _ f4
        have l4 : rb < V4.heap.size := Nat.lt_of_lt_of_le lr f4.size
        refine hK.out _ _ (HS.out _ f4) ?_
        clear hK K hown4 hgrow4 f4 HROW HOWN HF
        have s4 := HS.out V4 HF4.out
        refine wpAnyH_take (i := 10) (v := ?_) rfl (by kernel_rfl) (by kernel_rfl) (by kernel_rfl) (fun _ _ _ h => h) (Or.inl ⟨by rfl, ?_⟩) s4 ?_
        rotate_left
        · intro w hSw; first | (obtain ⟨s1, s2, s3, s4, s5, s6, s7⟩ := hSw; go_simp; rfl) | (obtain ⟨s1, s2, s3⟩ := hSw; go_simp; rfl) | (obtain ⟨s1, s2⟩ := hSw; go_simp; rfl) | (have s1 := hSw; go_simp; rfl)
        go_simp
        refine wpAnyH_take (i := 11) (v := ?_) rfl (by kernel_rfl) (by kernel_rfl) (by kernel_rfl) (fun _ _ _ h => h) (Or.inl ⟨by rfl, ?_⟩) s4 ?_
        rotate_left
        · intro w hSw; first | (obtain ⟨s1, s2, s3, s4, s5, s6, s7⟩ := hSw; go_simp; rfl) | (obtain ⟨s1, s2, s3⟩ := hSw; go_simp; rfl) | (obtain ⟨s1, s2⟩ := hSw; go_simp; rfl) | (have s1 := hSw; go_simp; rfl)
        go_simp
        clear s4
        refine heldOne (i := 12) (by kernel_rfl) rfl (by rfl) (fun K hK => ?_)
        go_simp
        obtain ⟨d1, d2, d3⟩ := HFIN.out V4 _ HF4.out HO4.out
        have s5 := HS.out V4 HF4.out
        rw [← cell_set_ne (o := 0) (.slice ao4 (n1 + 1 : Nat) cap4) (.inl (show rb ≠ B by omega)), ← cell_set_ne (b := rb) (o := 0) (o' := 1) (.slice ao4 (n1 + 1 : Nat) cap4) (.inl (show rb ≠ B by omega)), ← cell_set_ne (b := rb) (o := 0) (o' := 2) (.slice ao4 (n1 + 1 : Nat) cap4) (.inl (show rb ≠ B by omega))] at s5
        obtain ⟨W5, hW5⟩ : ∃ W5, V4.setCell ⟨rb, 0, none⟩ (.slice ao4 (n1 + 1 : Nat) cap4) = W5 := ⟨_, rfl⟩
        have lB5 : B < W5.heap.size := by rw [← hW5, World.size_setCell]; have := HF4.out.size; omega
        rw [hW5] at d1 d3 s5 ⊢
        clear hW5
        refine hK.out _ _ s5 ?_
        clear hK K z1 z2
        refine wpAnyH_done (by kernel_rfl) ?_ _
        obtain ⟨s5, _, _⟩ := s5
        have D1 := Lib.hid d1
        have D2 := Lib.hid d2
        have D3 := Lib.hid d3
        clear d1 d2 d3
        go_wp2
        go_ret2
        exact ⟨rfl, _, D1.out, fun k hk => .inr (D2.out k hk), D3.out⟩
end

end Go.Proofs.YteeckkkbmlkkiaaDoor
