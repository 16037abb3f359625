/- The document's queues: taking, dropping, where, putting in, a bucket. -/
import Derived.Test.YteeckkkbmlkkiaaDoorWaitN
import Derived.Test.YteeckkkbmlkkiaaDoorWaitK
import Derived.Test.YteeckkkbmlkkiaaDoorReg
namespace Go.Proofs.YteeckkkbmlkkiaaDoor
open Go.RowKit

theorem find_cases {α : Type} (L : List α) (P : α → Bool) : (L.find? P = none ∧ L.findIdx? P = none ∧ ∀ x ∈ L, P x = false) ∨ ∃ q s, L.find? P = some s ∧ L.findIdx? P = some q ∧ L[q]? = some s ∧ P s = true := by
  induction L with
  | nil => left; simp
  | cons x r ih =>
    cases hx : P x with
    | true => right; exact ⟨0, x, by simp [hx], by simp [List.findIdx?_cons, hx], rfl, hx⟩
    | false =>
      rcases ih with ⟨h1, h2, h3⟩ | ⟨q, s, h1, h2, h3, h4⟩
      · left
        refine ⟨by rw [List.find?_cons, hx]; exact h1, by rw [List.findIdx?_cons, hx, h2]; rfl, fun y hy => ?_⟩
        rcases List.mem_cons.1 hy with rfl | hy
        · exact hx
        · exact h3 y hy
      · right
        exact ⟨q + 1, s, by rw [List.find?_cons, hx]; exact h1, by rw [List.findIdx?_cons, hx, h2]; rfl, by simpa using h3, h4⟩
theorem without_no {L : List Sl} {x : Nat} (h : ∀ s ∈ L, (s.id == x) = false) : without L x = L := by
  unfold without
  exact List.filter_eq_self.2 (fun s hs => by have := h s hs; simp at this; simpa using this)
theorem without_split {L : List Sl} (h : Once L) {q : Nat} {t : Sl} (ht : L[q]? = some t) : without L t.id = L.take q ++ L.drop (q + 1) := by
  induction L generalizing q with
  | nil => simp at ht
  | cons x r ih =>
    obtain ⟨h1, h2⟩ := List.pairwise_cons.1 h
    cases q with
    | zero =>
      obtain rfl : x = t := by simpa using ht
      have : without r x.id = r := without_no (fun s hs => by have := (h1 s hs).1; simp; omega)
      unfold without at this ⊢
      rw [List.filter_cons_of_neg (by simp), this]; simp
    | succ q =>
      have hr : r[q]? = some t := by simpa using ht
      have hne : x.id ≠ t.id := (h1 t (List.mem_of_getElem? hr)).1
      have := ih h2 hr
      unfold without at this ⊢
      rw [List.filter_cons_of_pos (by simpa using hne), this]; simp
/-- What a call leaves of the queues. -/
def takeQ (L : List Sl) (o : Option Sl) : List Sl := match o with | some s => without L s.id | none => L
def idV (o : Option Sl) : Value := .tuple #[.int .u64 (((o.map Sl.id).getD 0 : Nat) : Int), .bool o.isSome]
theorem once_id {L : List Sl} (h : Once L) {s : Sl} (hs : s ∈ L) : L.find? (fun x => x.id == s.id) = some s := by
  rcases find_cases L (fun x => x.id == s.id) with ⟨_, _, h3⟩ | ⟨q, t, h1, _, h3, h4⟩
  · have := h3 s hs; simp at this
  · rw [h1]
    have ht := List.mem_of_getElem? h3
    by_cases e : t = s
    · rw [e]
    · exfalso
      have : t.id = s.id := by simpa using h4
      obtain ⟨i, hi⟩ := List.mem_iff_getElem?.1 hs
      obtain ⟨hi1, hi2⟩ := List.getElem?_eq_some_iff.1 hi
      obtain ⟨hq1, hq2⟩ := List.getElem?_eq_some_iff.1 h3
      rcases Nat.lt_trichotomy i q with hlt | rfl | hlt
      · have := (List.pairwise_iff_getElem.1 h i q hi1 hq1 hlt).1; rw [hi2, hq2] at this; omega
      · exact e (by rw [← hi2, ← hq2])
      · have := (List.pairwise_iff_getElem.1 h q i hq1 hi1 hlt).1; rw [hi2, hq2] at this; omega

section
variable {w : World} {rb N u a m : Nat} {v : Value} {L : List Sl}
set_option maxRecDepth 100000 in
set_option maxHeartbeats 1000000 in
theorem rhas_any (h : DocQ w rb v L N) (hm : m < 18446744073709551616) (hml : ∀ s ∈ L, s.mask < 18446744073709551616) :
    Calls Tryd.prog 33 #[.pointer (some ⟨rb, 0, none⟩), .int .u64 a, .int .u64 m] w fun e w' => e = .returned (.bool (firstOf L a m).isSome) ∧ w = w' := by
  have hf := rfirst_any rb v L N a m false w h hm hml
  unfold firstOf
  rcases find_cases L (fitsB a m false) with ⟨h1, h2, _⟩ | ⟨q, s, h1, h2, _, _⟩
  all_goals
    rw [h2] at hf
    rw [h1]
    have HF := Lib.hid hf
    clear hf h h1 h2
    go_enter Tryd.func33, Tryd.ntmps33
    go_wp2_with fail
    refine HF.out.mono ?_
    rintro e w1 ⟨rfl, rfl⟩
    first | rw [show placeI none = -1 from rfl] | rw [show placeI (some q) = (q : Int) from rfl]
    go_wp2
    go_ret
    exact ⟨rfl, rfl⟩

set_option maxRecDepth 100000 in
set_option maxHeartbeats 1000000 in
theorem rtake_any (h : DocQ w rb v L N) (hm : m < 18446744073709551616) (hml : ∀ s ∈ L, s.mask < 18446744073709551616) (ho : Once L) :
    Calls Tryd.prog 29 #[.pointer (some ⟨rb, 0, none⟩), .int .u64 a, .int .u64 m] w fun e w' => e = .returned (idV (firstOf L a m)) ∧ ∃ v', DocQ w' rb v' (takeQ L (firstOf L a m)) N ∧ (∀ k, v'.ownBlock = some k → v.ownBlock = some k ∨ w.heap.size ≤ k) ∧ Fr (· = rb) w w' := by
  have hf := rfirst_any rb v L N a m false w h hm hml
  unfold firstOf
  rcases find_cases L (fitsB a m false) with ⟨h1, h2, _⟩ | ⟨q, s, h1, h2, h3, _⟩
  · rw [h2] at hf
    rw [h1]
    have HF := Lib.hid hf
    have H := Lib.hid h
    clear hf h h1 h2
    go_enter Tryd.func29, Tryd.ntmps29
    go_wp2_with fail
    refine HF.out.mono ?_
    rintro e w1 ⟨rfl, rfl⟩
    rw [show placeI none = -1 from rfl]
    go_wp2
    go_ret2
    exact ⟨rfl, v, H.out, fun k hk => .inl hk, Fr.refl _ _⟩
  · rw [h2] at hf
    rw [h1]
    have HF := Lib.hid hf
    have HO := Lib.hid (rout_ok rb v L N q s w h h3)
    have HSP := Lib.hid (without_split ho h3)
    have hfd : ∀ w : World, (Instr.field 102 (.agg #[.int .u64 s.id, .int .u64 s.addr, .int .u64 s.mask]) 0).run Tryd.prog w = .ok (.int .u64 s.id) w := fun _ => by kernel_rfl
    clear hf h h1 h2 h3 ho
    go_enter Tryd.func29, Tryd.ntmps29
    go_wp2_with fail
    refine HF.out.mono ?_
    rintro e w1 ⟨rfl, rfl⟩
    rw [show placeI (some q) = (q : Int) from rfl]
    go_wp2_with fail
    refine HO.out.mono ?_
    rintro e w1 ⟨rfl, v', hr, ho, hf⟩
    have HR := Lib.hid hr
    have HW := Lib.hid ho
    have HFR := Lib.hid hf
    clear hr ho hf
    go_wp2
    go_ret2
    exact ⟨rfl, v', by show DocQ _ rb v' (without L s.id) N; rw [HSP.out]; exact HR.out, fun k hk => .inr (HW.out k hk), HFR.out⟩

set_option maxRecDepth 100000 in
set_option maxHeartbeats 1000000 in
theorem rdrop_any (h : DocQ w rb v L N) (ho : Once L) :
    Calls Tryd.prog 31 #[.pointer (some ⟨rb, 0, none⟩), .int .u64 u] w fun e w' => e = .returned (.bool (hasId L u)) ∧ ∃ v', DocQ w' rb v' (without L u) N ∧ (∀ k, v'.ownBlock = some k → v.ownBlock = some k ∨ w.heap.size ≤ k) ∧ Fr (· = rb) w w' := by
  have hf := rfind_any rb v L N u w h
  have hany : hasId L u = (L.find? fun s => s.id == u).isSome := by unfold hasId; rw [List.isSome_find?]
  rw [hany]
  rcases find_cases L (fun s => s.id == u) with ⟨h1, h2, h0⟩ | ⟨q, s, h1, h2, h3, h4⟩
  · rw [h2] at hf
    rw [h1, without_no h0]
    have HF := Lib.hid hf
    have H := Lib.hid h
    clear hf h h1 h2 h0 hany
    go_enter Tryd.func31, Tryd.ntmps31
    go_wp2_with fail
    refine HF.out.mono ?_
    rintro e w1 ⟨rfl, rfl⟩
    rw [show placeI none = -1 from rfl]
    go_wp2
    go_ret
    exact ⟨rfl, v, H.out, fun k hk => .inl hk, Fr.refl _ _⟩
  · rw [h2] at hf
    rw [h1]
    have HF := Lib.hid hf
    have HO := Lib.hid (rout_ok rb v L N q s w h h3)
    have hu : s.id = u := by simpa using h4
    have HSP := Lib.hid (show without L u = L.take q ++ L.drop (q + 1) by rw [← hu]; exact without_split ho h3)
    clear hf h h1 h2 h3 ho hany h4 hu
    go_enter Tryd.func31, Tryd.ntmps31
    go_wp2_with fail
    refine HF.out.mono ?_
    rintro e w1 ⟨rfl, rfl⟩
    rw [show placeI (some q) = (q : Int) from rfl]
    go_wp2_with fail
    refine HO.out.mono ?_
    rintro e w1 ⟨rfl, v', hr, ho, hf⟩
    have HR := Lib.hid hr
    have HW := Lib.hid ho
    have HFR := Lib.hid hf
    clear hr ho hf
    go_wp2
    go_ret
    exact ⟨rfl, v', by rw [HSP.out]; exact HR.out, fun k hk => .inr (HW.out k hk), HFR.out⟩

/-- What Where tells. -/
noncomputable def whereV (N : Nat) (o : Option Sl) : Value := match o with | some s => .tuple #[.int .u64 s.addr, .int .u64 s.mask, .int .i64 (bucketN s.addr N : Nat), .bool true] | none => .tuple #[.int .u64 0, .int .u64 0, .int .i64 0, .bool false]
set_option maxRecDepth 100000 in
set_option maxHeartbeats 2000000 in
theorem rwhere_any (h : DocQ w rb v L N) (hal : ∀ s ∈ L, s.addr < 18446744073709551616) :
    Calls Tryd.prog 34 #[.pointer (some ⟨rb, 0, none⟩), .int .u64 u] w fun e w' => e = .returned (whereV N (L.find? fun s => s.id == u)) ∧ New w w' := by
  have hf := rfind_any rb v L N u w h
  rcases find_cases L (fun s => s.id == u) with ⟨h1, h2, h0⟩ | ⟨q, s, h1, h2, h3, h4⟩
  · rw [h2] at hf
    rw [h1]
    have HF := Lib.hid hf
    clear hf h h1 h2 h0
    go_enter Tryd.func34, Tryd.ntmps34
    go_wp2_with fail
    refine HF.out.mono ?_
    rintro e w1 ⟨rfl, rfl⟩
    rw [show placeI none = -1 from rfl]
    go_wp2
    exact bodyPost_ret (v := .tuple #[.int .u64 0, .int .u64 0, .int .i64 0, .bool false]) (by simp [results, Tryd.results34, go_sem]) rfl ⟨rfl, Fr.refl _ _⟩
  · rw [h2] at hf
    rw [h1]
    have HF := Lib.hid hf
    have hsa := hal s (List.mem_of_getElem? h3)
    obtain ⟨g1, g2, g3⟩ := id h
    obtain ⟨ao, cap, rfl, _⟩ := owned_form g2
    have hcap := doc_cap g2
    have c1 : w.cell? ⟨rb, 0, none⟩ = some (.slice ao L.length cap) := cell_of_block g1 0
    have c2 : w.cell? ⟨rb, 1, none⟩ = some (.int .i64 N) := cell_of_block g1 1
    have l1 := lt_of_block g1
    obtain ⟨g, rfl, hg, x0, x1, x2⟩ := docq_at g2 h3
    obtain ⟨n, hn⟩ : ∃ n, L.length = n := ⟨_, rfl⟩
    have hqn : q < n := by rw [← hn]; exact (List.getElem?_eq_some_iff.1 h3).1
    rw [hn] at c1 g3 hcap
    have q1 : (0 : Int) ≤ (q : Int) := by omega
    have q2 : (q : Int) < (n : Int) := by omega
    have hbk := fun w => rbucket_any s.addr N w g3.1 (by omega) hsa
    unfold whereV
    obtain ⟨k, hk⟩ : ∃ k, bucketN s.addr N = k := ⟨_, rfl⟩
    simp only [hk] at hbk ⊢
    have HBK := Lib.hid hbk
    clear hf h h1 h2 h3 h4 g1 g2 hn hal hbk hk x0
    go_enter Tryd.func34, Tryd.ntmps34
    go_wp2_with fail
    refine HF.out.mono ?_
    rintro e w1 ⟨rfl, rfl⟩
    rw [show placeI (some q) = (q : Int) from rfl]
    go_wp2_with fail
    have s0 : w.drew.cell? ⟨rb, 0, none⟩ = some (.slice (some ⟨g, 0, none⟩) n cap) ∧ w.drew.cell? ⟨rb, 1, none⟩ = some (.int .i64 N) ∧ w.drew.cell? ⟨g, q * 3 + 1, none⟩ = some (.int .u64 s.addr) ∧ w.drew.cell? ⟨g, q * 3 + 2, none⟩ = some (.int .u64 s.mask) := ⟨c1, c2, x1, x2⟩
    refine heldStart (fun W => W.cell? ⟨rb, 0, none⟩ = some (.slice (some ⟨g, 0, none⟩) n cap) ∧ W.cell? ⟨rb, 1, none⟩ = some (.int .i64 N) ∧ W.cell? ⟨g, q * 3 + 1, none⟩ = some (.int .u64 s.addr) ∧ W.cell? ⟨g, q * 3 + 2, none⟩ = some (.int .u64 s.mask)) (by kernel_rfl) ?_
    have HN := Lib.hid (show New w w.drew from (Fr.refl _ _).drew)
    generalize w.drew = V0 at s0 HN ⊢
    refine wpAnyH_take (i := 0) (v := ?_) rfl (by kernel_rfl) (by kernel_rfl) (by kernel_rfl) (fun _ _ _ h => h) (Or.inl ⟨by rfl, ?_⟩) s0 ?_
    rotate_left
    · intro w hSw; first | (obtain ⟨s1, s2, s3, s4, s5, s6, s7⟩ := hSw; go_simp; rfl) | (obtain ⟨s1, s2, s3⟩ := hSw; go_simp; rfl) | (obtain ⟨s1, s2⟩ := hSw; go_simp; rfl) | (have s1 := hSw; go_simp; rfl)
    go_simp
    refine wpAnyH_take (i := 1) (v := ?_) rfl (by kernel_rfl) (by kernel_rfl) (by kernel_rfl) (fun _ _ _ h => h) (Or.inl ⟨by rfl, ?_⟩) s0 ?_
    rotate_left
    · intro w hSw; first | (obtain ⟨s1, s2, s3, s4, s5, s6, s7⟩ := hSw; go_simp; rfl) | (obtain ⟨s1, s2, s3⟩ := hSw; go_simp; rfl) | (obtain ⟨s1, s2⟩ := hSw; go_simp; rfl) | (have s1 := hSw; go_simp; rfl)
    go_simp
    refine wpAnyH_take (i := 2) (v := ?_) rfl (by kernel_rfl) (by kernel_rfl) (by kernel_rfl) (fun _ _ _ h => h) (Or.inl ⟨by rfl, ?_⟩) s0 ?_
    rotate_left
    · intro w hSw; first | (obtain ⟨s1, s2, s3, s4, s5, s6, s7⟩ := hSw; go_simp; rfl) | (obtain ⟨s1, s2, s3⟩ := hSw; go_simp; rfl) | (obtain ⟨s1, s2⟩ := hSw; go_simp; rfl) | (have s1 := hSw; go_simp; rfl)
    go_simp
    refine wpAnyH_take (i := 3) (v := ?_) rfl (by kernel_rfl) (by kernel_rfl) (by kernel_rfl) (fun _ _ _ h => h) (Or.inl ⟨by rfl, ?_⟩) s0 ?_
    rotate_left
    · intro w hSw; first | (obtain ⟨s1, s2, s3, s4, s5, s6, s7⟩ := hSw; go_simp; rfl) | (obtain ⟨s1, s2, s3⟩ := hSw; go_simp; rfl) | (obtain ⟨s1, s2⟩ := hSw; go_simp; rfl) | (have s1 := hSw; go_simp; rfl)
    go_simp
    refine wpAnyH_take (i := 4) (v := ?_) rfl (by kernel_rfl) (by kernel_rfl) (by kernel_rfl) (fun _ _ _ h => h) (Or.inl ⟨by rfl, ?_⟩) s0 ?_
    rotate_left
    · intro w hSw; first | (obtain ⟨s1, s2, s3, s4, s5, s6, s7⟩ := hSw; go_simp; rfl) | (obtain ⟨s1, s2, s3⟩ := hSw; go_simp; rfl) | (obtain ⟨s1, s2⟩ := hSw; go_simp; rfl) | (have s1 := hSw; go_simp; rfl)
    go_simp
    refine wpAnyH_take (i := 5) (v := ?_) rfl (by kernel_rfl) (by kernel_rfl) (by kernel_rfl) (fun _ _ _ h => h) (Or.inl ⟨by rfl, ?_⟩) s0 ?_
    rotate_left
    · intro w hSw; first | (obtain ⟨s1, s2, s3, s4, s5, s6, s7⟩ := hSw; go_simp; rfl) | (obtain ⟨s1, s2, s3⟩ := hSw; go_simp; rfl) | (obtain ⟨s1, s2⟩ := hSw; go_simp; rfl) | (have s1 := hSw; go_simp; rfl)
    go_simp
    refine wpAnyH_take (i := 6) (v := ?_) rfl (by kernel_rfl) (by kernel_rfl) (by kernel_rfl) (fun _ _ _ h => h) (Or.inl ⟨by rfl, ?_⟩) s0 ?_
    rotate_left
    · intro w hSw; first | (obtain ⟨s1, s2, s3, s4, s5, s6, s7⟩ := hSw; go_simp; rfl) | (obtain ⟨s1, s2, s3⟩ := hSw; go_simp; rfl) | (obtain ⟨s1, s2⟩ := hSw; go_simp; rfl) | (have s1 := hSw; go_simp; rfl)
    go_simp
    refine wpAnyH_take (i := 7) (v := ?_) rfl (by kernel_rfl) (by kernel_rfl) (by kernel_rfl) (fun _ _ _ h => h) (Or.inl ⟨by rfl, ?_⟩) s0 ?_
    rotate_left
    · intro w hSw; first | (obtain ⟨s1, s2, s3, s4, s5, s6, s7⟩ := hSw; go_simp; rfl) | (obtain ⟨s1, s2, s3⟩ := hSw; go_simp; rfl) | (obtain ⟨s1, s2⟩ := hSw; go_simp; rfl) | (have s1 := hSw; go_simp; rfl)
    go_simp
    refine wpAnyH_take (i := 8) (v := ?_) rfl (by kernel_rfl) (by kernel_rfl) (by kernel_rfl) (fun _ _ _ h => h) (Or.inl ⟨by rfl, ?_⟩) s0 ?_
    rotate_left
    · intro w hSw; first | (obtain ⟨s1, s2, s3, s4, s5, s6, s7⟩ := hSw; go_simp; rfl) | (obtain ⟨s1, s2, s3⟩ := hSw; go_simp; rfl) | (obtain ⟨s1, s2⟩ := hSw; go_simp; rfl) | (have s1 := hSw; go_simp; rfl)
    go_simp
    refine wpAnyH_take (i := 9) (v := ?_) rfl (by kernel_rfl) (by kernel_rfl) (by kernel_rfl) (fun _ _ _ h => h) (Or.inl ⟨by rfl, ?_⟩) s0 ?_
    rotate_left
    · intro w hSw; first | (obtain ⟨s1, s2, s3, s4, s5, s6, s7⟩ := hSw; go_simp; rfl) | (obtain ⟨s1, s2, s3⟩ := hSw; go_simp; rfl) | (obtain ⟨s1, s2⟩ := hSw; go_simp; rfl) | (have s1 := hSw; go_simp; rfl)
    go_simp
    refine wpAnyH_take (i := 10) (v := ?_) rfl (by kernel_rfl) (by kernel_rfl) (by kernel_rfl) (fun _ _ _ h => h) (Or.inl ⟨by rfl, ?_⟩) s0 ?_
    rotate_left
    · intro w hSw; first | (obtain ⟨s1, s2, s3, s4, s5, s6, s7⟩ := hSw; go_simp; rfl) | (obtain ⟨s1, s2, s3⟩ := hSw; go_simp; rfl) | (obtain ⟨s1, s2⟩ := hSw; go_simp; rfl) | (have s1 := hSw; go_simp; rfl)
    go_simp
    refine wpAnyH_take (i := 11) (v := ?_) rfl (by kernel_rfl) (by kernel_rfl) (by kernel_rfl) (fun _ _ _ h => h) (Or.inl ⟨by rfl, ?_⟩) s0 ?_
    rotate_left
    · intro w hSw; first | (obtain ⟨s1, s2, s3, s4, s5, s6, s7⟩ := hSw; go_simp; rfl) | (obtain ⟨s1, s2, s3⟩ := hSw; go_simp; rfl) | (obtain ⟨s1, s2⟩ := hSw; go_simp; rfl) | (have s1 := hSw; go_simp; rfl)
    go_simp
    refine wpAnyH_take (i := 12) (v := ?_) rfl (by kernel_rfl) (by kernel_rfl) (by kernel_rfl) (fun _ _ _ h => h) (Or.inl ⟨by rfl, ?_⟩) s0 ?_
    rotate_left
    · intro w hSw; first | (obtain ⟨s1, s2, s3, s4, s5, s6, s7⟩ := hSw; go_simp; rfl) | (obtain ⟨s1, s2, s3⟩ := hSw; go_simp; rfl) | (obtain ⟨s1, s2⟩ := hSw; go_simp; rfl) | (have s1 := hSw; go_simp; rfl)
    go_simp
    refine wpAnyH_take (i := 13) (v := ?_) rfl (by kernel_rfl) (by kernel_rfl) (by kernel_rfl) (fun _ _ _ h => h) (Or.inl ⟨by rfl, ?_⟩) s0 ?_
    rotate_left
    · intro w hSw; first | (obtain ⟨s1, s2, s3, s4, s5, s6, s7⟩ := hSw; go_simp; rfl) | (obtain ⟨s1, s2, s3⟩ := hSw; go_simp; rfl) | (obtain ⟨s1, s2⟩ := hSw; go_simp; rfl) | (have s1 := hSw; go_simp; rfl)
    go_simp
    refine wpAnyH_take (i := 14) (v := ?_) rfl (by kernel_rfl) (by kernel_rfl) (by kernel_rfl) (fun _ _ _ h => h) (Or.inl ⟨by rfl, ?_⟩) s0 ?_
    rotate_left
    · intro w hSw; first | (obtain ⟨s1, s2, s3, s4, s5, s6, s7⟩ := hSw; go_simp; rfl) | (obtain ⟨s1, s2, s3⟩ := hSw; go_simp; rfl) | (obtain ⟨s1, s2⟩ := hSw; go_simp; rfl) | (have s1 := hSw; go_simp; rfl)
    go_simp
    refine wpAnyH_take (i := 15) (v := ?_) rfl (by kernel_rfl) (by kernel_rfl) (by kernel_rfl) (fun _ _ _ h => h) (Or.inl ⟨by rfl, ?_⟩) s0 ?_
    rotate_left
    · intro w hSw; first | (obtain ⟨s1, s2, s3, s4, s5, s6, s7⟩ := hSw; go_simp; rfl) | (obtain ⟨s1, s2, s3⟩ := hSw; go_simp; rfl) | (obtain ⟨s1, s2⟩ := hSw; go_simp; rfl) | (have s1 := hSw; go_simp; rfl)
    go_simp
    refine wpAnyH_take (i := 16) (v := ?_) rfl (by kernel_rfl) (by kernel_rfl) (by kernel_rfl) (fun _ _ _ h => h) (Or.inl ⟨by rfl, ?_⟩) s0 ?_
    rotate_left
    · intro w hSw; first | (obtain ⟨s1, s2, s3, s4, s5, s6, s7⟩ := hSw; go_simp; rfl) | (obtain ⟨s1, s2, s3⟩ := hSw; go_simp; rfl) | (obtain ⟨s1, s2⟩ := hSw; go_simp; rfl) | (have s1 := hSw; go_simp; rfl)
    go_simp
    refine wpAnyH_take (i := 17) (v := ?_) rfl (by kernel_rfl) (by kernel_rfl) (by kernel_rfl) (fun _ _ _ h => h) (Or.inl ⟨by rfl, ?_⟩) s0 ?_
    rotate_left
    · intro w hSw; first | (obtain ⟨s1, s2, s3, s4, s5, s6, s7⟩ := hSw; go_simp; rfl) | (obtain ⟨s1, s2, s3⟩ := hSw; go_simp; rfl) | (obtain ⟨s1, s2⟩ := hSw; go_simp; rfl) | (have s1 := hSw; go_simp; rfl)
    go_simp
    refine wpAnyH_take (i := 18) (v := ?_) rfl (by kernel_rfl) (by kernel_rfl) (by kernel_rfl) (fun _ _ _ h => h) (Or.inl ⟨by rfl, ?_⟩) s0 ?_
    rotate_left
    · intro w hSw; first | (obtain ⟨s1, s2, s3, s4, s5, s6, s7⟩ := hSw; go_simp; rfl) | (obtain ⟨s1, s2, s3⟩ := hSw; go_simp; rfl) | (obtain ⟨s1, s2⟩ := hSw; go_simp; rfl) | (have s1 := hSw; go_simp; rfl)
    go_simp
    refine wpAnyH_take (i := 19) (v := ?_) rfl (by kernel_rfl) (by kernel_rfl) (by kernel_rfl) (fun _ _ _ h => h) (Or.inl ⟨by rfl, ?_⟩) s0 ?_
    rotate_left
    · intro w hSw; first | (obtain ⟨s1, s2, s3, s4, s5, s6, s7⟩ := hSw; go_simp; rfl) | (obtain ⟨s1, s2, s3⟩ := hSw; go_simp; rfl) | (obtain ⟨s1, s2⟩ := hSw; go_simp; rfl) | (have s1 := hSw; go_simp; rfl)
    go_simp
    refine wpAnyH_take (i := 20) (v := ?_) rfl (by kernel_rfl) (by kernel_rfl) (by kernel_rfl) (fun _ _ _ h => h) (Or.inl ⟨by rfl, ?_⟩) s0 ?_
    rotate_left
    · intro w hSw; first | (obtain ⟨s1, s2, s3, s4, s5, s6, s7⟩ := hSw; go_simp; rfl) | (obtain ⟨s1, s2, s3⟩ := hSw; go_simp; rfl) | (obtain ⟨s1, s2⟩ := hSw; go_simp; rfl) | (have s1 := hSw; go_simp; rfl)
    go_simp
    refine wpAnyH_take (i := 21) (v := ?_) rfl (by kernel_rfl) (by kernel_rfl) (by kernel_rfl) (fun _ _ _ h => h) (Or.inl ⟨by rfl, ?_⟩) s0 ?_
    rotate_left
    · intro w hSw; first | (obtain ⟨s1, s2, s3, s4, s5, s6, s7⟩ := hSw; go_simp; rfl) | (obtain ⟨s1, s2, s3⟩ := hSw; go_simp; rfl) | (obtain ⟨s1, s2⟩ := hSw; go_simp; rfl) | (have s1 := hSw; go_simp; rfl)
    go_simp
    refine wpAnyH_take (i := 22) (v := ?_) rfl (by kernel_rfl) (by kernel_rfl) (by kernel_rfl) (fun _ _ _ h => h) (Or.inl ⟨by rfl, ?_⟩) s0 ?_
    rotate_left
    · intro w hSw; first | (obtain ⟨s1, s2, s3, s4, s5, s6, s7⟩ := hSw; go_simp; rfl) | (obtain ⟨s1, s2, s3⟩ := hSw; go_simp; rfl) | (obtain ⟨s1, s2⟩ := hSw; go_simp; rfl) | (have s1 := hSw; go_simp; rfl)
    go_simp
    refine wpAnyH_take (i := 23) (v := ?_) rfl (by kernel_rfl) (by kernel_rfl) (by kernel_rfl) (fun _ _ _ h => h) (Or.inl ⟨by rfl, ?_⟩) s0 ?_
    rotate_left
    · intro w hSw; first | (obtain ⟨s1, s2, s3, s4, s5, s6, s7⟩ := hSw; go_simp; rfl) | (obtain ⟨s1, s2, s3⟩ := hSw; go_simp; rfl) | (obtain ⟨s1, s2⟩ := hSw; go_simp; rfl) | (have s1 := hSw; go_simp; rfl)
    go_simp
    refine wpAnyH_take (i := 24) (v := ?_) rfl (by kernel_rfl) (by kernel_rfl) (by kernel_rfl) (fun _ _ _ h => h) (Or.inl ⟨by rfl, ?_⟩) s0 ?_
    rotate_left
    · intro w hSw; first | (obtain ⟨s1, s2, s3, s4, s5, s6, s7⟩ := hSw; go_simp; rfl) | (obtain ⟨s1, s2, s3⟩ := hSw; go_simp; rfl) | (obtain ⟨s1, s2⟩ := hSw; go_simp; rfl) | (have s1 := hSw; go_simp; rfl)
    go_simp
    refine wpAnyH_take (i := 25) (v := ?_) rfl (by kernel_rfl) (by kernel_rfl) (by kernel_rfl) (fun _ _ _ h => h) (Or.inl ⟨by rfl, ?_⟩) s0 ?_
    rotate_left
    · intro w hSw; first | (obtain ⟨s1, s2, s3, s4, s5, s6, s7⟩ := hSw; go_simp; rfl) | (obtain ⟨s1, s2, s3⟩ := hSw; go_simp; rfl) | (obtain ⟨s1, s2⟩ := hSw; go_simp; rfl) | (have s1 := hSw; go_simp; rfl)
    go_simp
    refine wpAnyH_take (i := 26) (v := ?_) rfl (by kernel_rfl) (by kernel_rfl) (by kernel_rfl) (fun _ _ _ h => h) (Or.inl ⟨by rfl, ?_⟩) s0 ?_
    rotate_left
    · intro w hSw; first | (obtain ⟨s1, s2, s3, s4, s5, s6, s7⟩ := hSw; go_simp; rfl) | (obtain ⟨s1, s2, s3⟩ := hSw; go_simp; rfl) | (obtain ⟨s1, s2⟩ := hSw; go_simp; rfl) | (have s1 := hSw; go_simp; rfl)
    go_simp
    refine wpAnyH_take (i := 27) (v := ?_) rfl (by kernel_rfl) (by kernel_rfl) (by kernel_rfl) (fun _ _ _ h => h) (Or.inl ⟨by rfl, ?_⟩) s0 ?_
    rotate_left
    · intro w hSw; first | (obtain ⟨s1, s2, s3, s4, s5, s6, s7⟩ := hSw; go_simp; rfl) | (obtain ⟨s1, s2, s3⟩ := hSw; go_simp; rfl) | (obtain ⟨s1, s2⟩ := hSw; go_simp; rfl) | (have s1 := hSw; go_simp; rfl)
    go_simp
    refine heldOne (i := 28) (by kernel_rfl) rfl (by rfl) (fun K hK => ?_)
    go_simp
    refine (HBK.out V0).mono ?_
    rintro e w3 ⟨rfl, rfl⟩
    refine hK.out _ _ s0 ?_
    clear hK K
    refine wpAnyH_take (i := 29) (v := ?_) rfl (by kernel_rfl) (by kernel_rfl) (by kernel_rfl) (fun _ _ _ h => h) (Or.inl ⟨by rfl, ?_⟩) s0 ?_
    rotate_left
    · intro w hSw; first | (obtain ⟨s1, s2, s3, s4, s5, s6, s7⟩ := hSw; go_simp; rfl) | (obtain ⟨s1, s2, s3⟩ := hSw; go_simp; rfl) | (obtain ⟨s1, s2⟩ := hSw; go_simp; rfl) | (have s1 := hSw; go_simp; rfl)
    go_simp
    refine wpAnyH_take (i := 30) (v := ?_) rfl (by kernel_rfl) (by kernel_rfl) (by kernel_rfl) (fun _ _ _ h => h) (Or.inl ⟨by rfl, ?_⟩) s0 ?_
    rotate_left
    · intro w hSw; first | (obtain ⟨s1, s2, s3, s4, s5, s6, s7⟩ := hSw; go_simp; rfl) | (obtain ⟨s1, s2, s3⟩ := hSw; go_simp; rfl) | (obtain ⟨s1, s2⟩ := hSw; go_simp; rfl) | (have s1 := hSw; go_simp; rfl)
    go_simp
    refine wpAnyH_take (i := 31) (v := ?_) rfl (by kernel_rfl) (by kernel_rfl) (by kernel_rfl) (fun _ _ _ h => h) (Or.inl ⟨by rfl, ?_⟩) s0 ?_
    rotate_left
    · intro w hSw; first | (obtain ⟨s1, s2, s3, s4, s5, s6, s7⟩ := hSw; go_simp; rfl) | (obtain ⟨s1, s2, s3⟩ := hSw; go_simp; rfl) | (obtain ⟨s1, s2⟩ := hSw; go_simp; rfl) | (have s1 := hSw; go_simp; rfl)
    go_simp
    refine wpAnyH_take (i := 32) (v := ?_) rfl (by kernel_rfl) (by kernel_rfl) (by kernel_rfl) (fun _ _ _ h => h) (Or.inl ⟨by rfl, ?_⟩) s0 ?_
    rotate_left
    · intro w hSw; first | (obtain ⟨s1, s2, s3, s4, s5, s6, s7⟩ := hSw; go_simp; rfl) | (obtain ⟨s1, s2, s3⟩ := hSw; go_simp; rfl) | (obtain ⟨s1, s2⟩ := hSw; go_simp; rfl) | (have s1 := hSw; go_simp; rfl)
    go_simp
    refine wpAnyH_done (by kernel_rfl) ?_ _
    clear s0
    go_wp2
    exact bodyPost_ret (v := .tuple #[.int .u64 s.addr, .int .u64 s.mask, .int .i64 (k : Nat), .bool true]) (by simp [results, Tryd.results34, go_sem]) rfl ⟨rfl, HN.out⟩
end

def putQ (L : List Sl) (u a m blk : Nat) : List Sl := if (putErr L u).isSome then L else L ++ [⟨u, a, m, blk⟩]
theorem hasId_find (L : List Sl) (u : Nat) : hasId L u = (L.find? fun s => s.id == u).isSome := by unfold hasId; rw [List.isSome_find?]

set_option maxRecDepth 100000 in
set_option maxHeartbeats 2000000 in
theorem rput_any (rb : Nat) (v : Value) (L : List Sl) (N u a m blk : Nat) (w : World) (h : DocQ w rb v L N) (hl : L.length < 10000) :
    Calls Tryd.prog 35 #[.pointer (some ⟨rb, 0, none⟩), .int .u64 u, .int .u64 a, .int .u64 m] w fun e w' => ∃ x, e = .returned x ∧ SaysF w' waitL x (putErr L u) ∧ ∃ v', DocQ w' rb v' (putQ L u a m blk) N ∧ (∀ k, v'.ownBlock = some k → v.ownBlock = some k ∨ w.heap.size ≤ k) ∧ Fr (· = rb) w w' := by
  unfold putQ
  by_cases h0 : u = 0
  · subst h0
    rw [show putErr L 0 = some (0, 1) from rfl, show (((0 : Nat)) : Int) = 0 from rfl]
    have H := Lib.hid h
    clear h
    go_enter Tryd.func35, Tryd.ntmps35
    go_wp2_with fail
    refine (no_says waitL 0 1 _).mono ?_
    rintro e w1 ⟨f, rfl, hf, hn1⟩
    have HF := Lib.hid hf
    have HN := Lib.hid hn1
    clear hf hn1
    go_wp2
    go_ret
    exact ⟨f, rfl, HF.out, v, H.out.new HN.out, fun k hk => .inl hk, HN.out.mono (fun _ _ h => h.elim)⟩
  · have hf := rfind_any rb v L N u w h
    have t0 : ((u : Int) == 0) = false := by rw [beq_eq_false_iff_ne]; omega
    rcases find_cases L (fun s => s.id == u) with ⟨h1, h2, _⟩ | ⟨q, s, h1, h2, h3, h4⟩
    · rw [h2] at hf
      rw [show putErr L u = none by unfold putErr; rw [if_neg h0, hasId_find, h1]; rfl]
      obtain ⟨g1, g2, g3⟩ := id h
      obtain ⟨ao, cap, rfl, _⟩ := owned_form g2
      have hcap := doc_cap g2
      have c1 : w.cell? ⟨rb, 0, none⟩ = some (.slice ao L.length cap) := cell_of_block g1 0
      have l1 := lt_of_block g1
      obtain ⟨n, hn⟩ : ∃ n, L.length = n := ⟨_, rfl⟩
      obtain ⟨i0, hi, hz0, hz1, hz2⟩ := info_parts rwInfo
      have HLE := Lib.hid (show (L.flatMap waC).length = n * 3 by rw [len_flatMap waC 3 waC_len, hn])
      have hsrc := Src.of_own g2
      rw [hn] at c1 g3 hcap g1 hsrc hl
      have hown := World.ownsRow_lit (base := w.heap.size) (e := 102) (size := 3) w #[] 0 (Nat.le_refl _) (Nat.zero_le _) rfl
      have HS := Lib.hid hsrc
      have H1 := Lib.hid g1
      have HF := Lib.hid hf
      have H := Lib.hid h
      have HN := Lib.hid hn
      clear hf h h1 h2 g1 g2 hn hsrc h0
      go_enter Tryd.func35, Tryd.ntmps35
      go_wp2_with fail
      refine HF.out.mono ?_
      rintro e w1 ⟨rfl, rfl⟩
      rw [show placeI none = -1 from rfl]
      go_wp2_with (first
        | (at_builtin; refine wpList_append_src rfl (.tmp 18) (.tmp 22) 78 rfl w.heap.size 102 i0 _ 3 24 Tryd.underlying78 hi hz0 hz1 hz2 rfl (by decide) _ _ _ rfl hown ao n cap (L.flatMap waC) rfl HLE.out (HS.out.keep ((Fr.refl (fun _ => False) _).alloc _) (fun _ _ => id)) (waC_one _) (by unfold maxLen; omega) (by omega) (by simp) ?_; intro v1 w1 hown1 hgrow1; rw [List.nil_append, Nat.zero_add] at hown1; have f1 : Fr (fun k => w.heap.size ≤ k) w w1 := ((Fr.refl _ w).alloc _).grown hgrow1 (fun k hk _ => by cases hk; exact Nat.le_refl _); have b1 := (f1.block rb l1 (by omega)).trans H1.out; have l2 := lt_of_block b1; obtain ⟨ao1, cap1, rfl, _⟩ := owned_form hown1; have HO1 := Lib.hid hown1; have F1 := Lib.hid f1; have B1 := Lib.hid b1; clear hgrow1 hown1 f1 b1 hown)
        | (at_builtin; refine wpList_append_src rfl (.tmp 23) (.tmp 28) 78 rfl w.heap.size 102 i0 _ 3 24 Tryd.underlying78 hi hz0 hz1 hz2 rfl (by decide) _ _ _ rfl (HO1.out.alloc _) (some ⟨w1.heap.size, 0, none⟩) 1 1 (waC ⟨u, a, m, blk⟩) rfl rfl (.inr ⟨_, rfl, by simp, Arr.add (Arr.new _ _ _)⟩) (by simp [waC, Value.oneCell']) (by unfold maxLen; omega) (by omega) (by have := F1.out.size; simp; omega) ?_; intro v2 w2 hown2 hgrow2; have f2 : Fr (fun k => w.heap.size ≤ k) w1 w2 := ((Fr.refl _ w1).alloc _).grown hgrow2 (fun k hk _ => (HO1.out.lt k hk).1); have b2 := (f2.block rb l2 (by omega)).trans B1.out; have l3 := lt_of_block b2; have e1 : w2.cell? ⟨rb, 0, none⟩ = some (.slice ao n cap) := cell_of_block b2 0; have y2 := free_of_block b2 0; obtain ⟨ao2, cap2, rfl, _⟩ := owned_form hown2; have HO2 := Lib.hid hown2; have F2 := Lib.hid f2; have B2 := Lib.hid b2; clear hgrow2 hown2 f2 b2 l2))
      go_ret
      have ho := HO2.out
      rw [show L.flatMap waC ++ waC ⟨u, a, m, blk⟩ = (L ++ [(⟨u, a, m, blk⟩ : Sl)]).flatMap waC by rw [List.flatMap_append]; simp] at ho
      obtain ⟨e1, e2, e3⟩ := docq_end H.out ((F1.out.trans F2.out).mono (fun k hk e => absurd e (by omega))) B2.out (Nat.le_refl _) ho (by rw [List.length_append, HN.out]; rfl) (by rw [List.length_append, HN.out]; show n + 1 ≤ 10000; omega)
      exact ⟨_, rfl, rfl, _, e1, fun k hk => .inr (e2 k hk), e3⟩
    · rw [h2] at hf
      rw [show putErr L u = some (0, 8) by unfold putErr; rw [if_neg h0, hasId_find, h1]; rfl]
      have HF := Lib.hid hf
      have H := Lib.hid h
      clear hf h h1 h2 h3 h4 h0
      go_enter Tryd.func35, Tryd.ntmps35
      go_wp2_with fail
      refine HF.out.mono ?_
      rintro e w1 ⟨rfl, rfl⟩
      rw [show placeI (some q) = (q : Int) from rfl]
      go_wp2_with fail
      refine (no_says waitL 0 8 _).mono ?_
      rintro e w1 ⟨f, rfl, hf, hn1⟩
      have HFF := Lib.hid hf
      have HN := Lib.hid hn1
      clear hf hn1
      go_wp2
      go_ret
      exact ⟨f, rfl, HFF.out, v, H.out.new HN.out, fun k hk => .inl hk, HN.out.mono (fun _ _ h => h.elim)⟩

end Go.Proofs.YteeckkkbmlkkiaaDoor
