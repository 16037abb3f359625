/- A heap in memory: one comes up. -/
import Derived.Test.YtafeopcbfgmjkaaDoorHeapA
import Derived.IntWalk
namespace Go.Proofs.YtafeopcbfgmjkaaDoor
open Go.RowKit Go.Maps

/-- Nobody has another's handle. -/
def Hs (L : List Th) : Prop := L.Pairwise fun a b => a.h ≠ b.h
theorem Hs.perm {L L' : List Th} (h : Hs L) (p : L'.Perm L) : Hs L' := (List.Perm.pairwise_iff (fun h => Ne.symm h) p).2 h
theorem Hs.eq {L : List Th} (h : Hs L) {i j : Nat} {a b : Th} (ha : L[i]? = some a) (hb : L[j]? = some b) (e : a.h = b.h) : i = j := by
  obtain ⟨hi, rfl⟩ := List.getElem?_eq_some_iff.1 ha
  obtain ⟨hj, rfl⟩ := List.getElem?_eq_some_iff.1 hb
  rcases Nat.lt_trichotomy i j with h1 | h1 | h1
  · exact absurd e (List.pairwise_iff_getElem.1 h i j hi hj h1)
  · exact h1
  · exact absurd e.symm (List.pairwise_iff_getElem.1 h j i hj hi h1)
/-- The map tells the places of all but the one at i, and of no others. -/
structure Pl (M : Int → Option Value) (L : List Th) (i c : Nat) : Prop where
  at' : ∀ (j : Nat) (a : Th), L[j]? = some a → j ≠ i → M (a.h : Int) = some (.int .i64 j)
  only : ∀ x : Int, (M x).isSome = true → ∃ a ∈ L, (a.h : Int) = x
  cnt : ∀ t, L[i]? = some t → cntUp M t.h c = L.length
/-- The map tells the places of all. -/
structure Pos (M : Int → Option Value) (L : List Th) : Prop where
  at' : ∀ (j : Nat) (a : Th), L[j]? = some a → M (a.h : Int) = some (.int .i64 j)
  only : ∀ x : Int, (M x).isSome = true → ∃ a ∈ L, (a.h : Int) = x
theorem Pl.done {M : Int → Option Value} {L : List Th} {i c : Nat} (h : Pl M L i c) {t : Th} (ht : L[i]? = some t) (hs : Hs L) : Pos (mapUp M t.h i) L :=
  ⟨fun j a ha => by
    unfold mapUp
    by_cases e : j = i
    · subst e
      rw [ht] at ha
      obtain rfl := Option.some.inj ha
      rw [if_pos rfl]
    · rw [if_neg (fun x => e (hs.eq ha ht (by omega)))]
      exact h.at' j a ha e, fun x hx => by
    unfold mapUp at hx
    by_cases e : x = (t.h : Int)
    · exact ⟨t, List.mem_of_getElem? ht, e.symm⟩
    · rw [if_neg e] at hx; exact h.only x hx⟩
theorem swap_at {L : List Th} {i p : Nat} {t q : Th} (ht : L[i]? = some t) (hq : L[p]? = some q) (hip : i ≠ p) (j : Nat) : ((L.set i q).set p t)[j]? = if j = p then some t else if j = i then some q else L[j]? := by
  have hi := (List.getElem?_eq_some_iff.1 ht).1
  have hp := (List.getElem?_eq_some_iff.1 hq).1
  by_cases e : j = p
  · subst e; rw [if_pos rfl, List.getElem?_set_self (by simpa using hp)]
  · rw [if_neg e, List.getElem?_set_ne (fun x => e x.symm)]
    by_cases e2 : j = i
    · subst e2; rw [if_pos rfl, List.getElem?_set_self hi]
    · rw [if_neg e2, List.getElem?_set_ne (fun x => e2 x.symm)]
theorem swap_perm {L : List Th} {i p : Nat} {t q : Th} (ht : L[i]? = some t) (hq : L[p]? = some q) : ((L.set i q).set p t).Perm L := by
  have hi := (List.getElem?_eq_some_iff.1 ht).1
  have hp := (List.getElem?_eq_some_iff.1 hq).1
  have := perm_swap hi hp
  rwa [fn_at ht, fn_at hq] at this
theorem swap_fn {L : List Th} {i p : Nat} {t q : Th} (ht : L[i]? = some t) (hq : L[p]? = some q) : fn ((L.set i q).set p t) = swp (fn L) i p := by
  have hi := (List.getElem?_eq_some_iff.1 ht).1
  have hp := (List.getElem?_eq_some_iff.1 hq).1
  have := fn_swap hi hp
  rwa [fn_at ht, fn_at hq] at this
theorem Pl.step {M : Int → Option Value} {L : List Th} {i p c : Nat} {t q : Th} (h : Pl M L i c) (hs : Hs L) (ht : L[i]? = some t) (hq : L[p]? = some q) (hip : i ≠ p) :
    Pl (mapUp M q.h i) ((L.set i q).set p t) p (cntUp M q.h c) ∧ cntUp M q.h c = c := by
  have hqs := h.at' p q hq (fun e => hip e.symm)
  have hne : (t.h : Int) ≠ (q.h : Int) := fun e => hip (hs.eq ht hq (by omega))
  have hcc : cntUp M q.h c = c := by unfold cntUp; rw [hqs]; rfl
  refine ⟨⟨fun j a ha hj => ?_, fun x hx => ?_, fun t' ht' => ?_⟩, hcc⟩
  · rw [swap_at ht hq hip, if_neg hj] at ha
    unfold mapUp
    by_cases e : j = i
    · subst e
      rw [if_pos rfl] at ha
      obtain rfl := Option.some.inj ha
      rw [if_pos rfl]
    · rw [if_neg e] at ha
      rw [if_neg (fun x => hj (hs.eq ha hq (by omega)))]
      exact h.at' j a ha e
  · unfold mapUp at hx
    by_cases e : x = (q.h : Int)
    · exact ⟨q, (swap_perm ht hq).mem_iff.2 (List.mem_of_getElem? hq), e.symm⟩
    · rw [if_neg e] at hx
      obtain ⟨a, ha, e2⟩ := h.only x hx
      exact ⟨a, (swap_perm ht hq).mem_iff.2 ha, e2⟩
  · rw [swap_at ht hq hip, if_pos rfl] at ht'
    obtain rfl := Option.some.inj ht'
    rw [List.length_set, List.length_set, ← h.cnt t ht, hcc]
    unfold cntUp mapUp
    rw [if_neg hne]

theorem set_same {L : List Th} {i : Nat} {t : Th} (h : L[i]? = some t) : L.set i t = L := by
  apply List.ext_getElem?
  intro j
  by_cases e : i = j
  · subst e; rw [List.getElem?_set_self (List.getElem?_eq_some_iff.1 h).1, h]
  · rw [List.getElem?_set_ne e]
theorem getset {L : List Th} {i : Nat} {t : Th} (h : i < L.length) : (L.set i t)[i]? = some t := List.getElem?_set_self h
/-- What a round of 'up' knows: the row but for the place k, where t belongs. -/
structure UpR (w : World) (hb g mb n cap : Nat) (L : List Th) (last c i : Nat) (t : Th) (k : Nat) (Lm : List Th) (M : Int → Option Value) (wr : World) : Prop where
  lt : k < n
  row : HRow wr hb g mb n cap Lm last c M
  perm : (Lm.set k t).Perm L
  pl : Pl M (Lm.set k t) k c
  up : Up (fn (Lm.set k t)) n k
  ch : Ch (fn L) n i → Ch (fn (Lm.set k t)) n k
  tb : wr.heap[w.heap.size]? = some (.cells #[.int .u64 t.d, .int .u64 t.what, .int .i64 t.h] 84 (0, 0))
  fr : Fr (fun k => k = g ∨ k = mb) w wr

theorem up_end {w wr w1 w2 : World} {hb g mb n cap : Nat} {L : List Th} {last c i : Nat} {t : Th} {k : Nat} {Lm : List Th} {M : Int → Option Value} (h : UpR w hb g mb n cap L last c i t k Lm M wr) (hn : New wr w1)
    (hr : HRow w2 hb g mb n cap (Lm.set k t) last (cntUp M t.h c) (mapUp M t.h k)) (hf : Fr (fun k => k = g ∨ k = mb) w1 w2) (hs : Hs L) (hx : 0 < k → ¬ ah t (fn (Lm.set k t) ((k - 1) / 2))) :
    ∃ L' M' i', HRow w2 hb g mb n cap L' last n M' ∧ L'.Perm L ∧ Pos M' L' ∧ L'[i']? = some t ∧ Dn (fn L') n i' ∧ (Ch (fn L) n i → Ch (fn L') n i') ∧ Fr (fun k => k = g ∨ k = mb) w w2 := by
  have hkl : k < Lm.length := by rw [h.row.len]; exact h.lt
  have hg : (Lm.set k t)[k]? = some t := getset hkl
  have hc := h.pl.cnt t hg
  rw [List.length_set, h.row.len] at hc
  rw [hc] at hr
  exact ⟨_, _, k, hr, h.perm, h.pl.done hg (hs.perm h.perm), hg, h.up.done (fun h0 => by rw [fn_at hg]; exact hx h0), h.ch, h.fr.trans ((hn.mono (fun _ _ h => h.elim)).trans hf)⟩
/-- The count fits when t is laid. -/
theorem up_cnt {w wr : World} {hb g mb n cap : Nat} {L : List Th} {last c i : Nat} {t : Th} {k : Nat} {Lm : List Th} {M : Int → Option Value} (h : UpR w hb g mb n cap L last c i t k Lm M wr) : (M (t.h : Int)).isSome = true ∨ c < 1000000 := by
  have hkl : k < Lm.length := by rw [h.row.len]; exact h.lt
  have hc := h.pl.cnt t (getset hkl)
  rw [List.length_set, h.row.len] at hc
  have := h.row.few
  unfold cntUp at hc
  cases hm : (M (t.h : Int)).isSome with
  | true => exact .inl rfl
  | false => rw [hm] at hc; simp at hc; right; omega

set_option maxRecDepth 100000 in
set_option maxHeartbeats 4000000 in
theorem up_any (hb g mb n cap : Nat) (L : List Th) (last c : Nat) (M : Int → Option Value) (i : Nat) (t : Th) (w : World) (h : HRow w hb g mb n cap L last c M) (ht : L[i]? = some t) (hs : Hs L) (hp : Pl M L i c) (hu : Up (fn L) n i) :
    Calls Tryd.prog 31 #[.pointer (some ⟨hb, 0, none⟩), .int .i64 i] w fun e w' => e = .returned (.tuple #[]) ∧ ∃ L' M' i', HRow w' hb g mb n cap L' last n M' ∧ L'.Perm L ∧ Pos M' L' ∧ L'[i']? = some t ∧ Dn (fn L') n i' ∧ (Ch (fn L) n i → Ch (fn L') n i') ∧ Fr (fun k => k = g ∨ k = mb) w w' := by
  have hin : i < n := by rw [← h.len]; exact (List.getElem?_eq_some_iff.1 ht).1
  have hfew := h.few
  have hft := h.fit t (List.mem_of_getElem? ht)
  have hap := h.apart
  have c0 := cell_of_block h.hd 0
  rw [show (#[Value.slice (some ⟨g, 0, none⟩) n cap, .map (some mb), .int .i64 last] : Array Value)[0]? = some (.slice (some ⟨g, 0, none⟩) n cap) from rfl] at c0
  have l1 := lt_of_block h.hd
  obtain ⟨a0, a1, a2⟩ := h.at ht
  have i0 : (0 : Int) ≤ (i : Int) := by omega
  have i1 : (i : Int) < (n : Int) := by omega
  have H := Lib.hid h
  have HT := Lib.hid ht
  have HS := Lib.hid hs
  have HP := Lib.hid hp
  have HU := Lib.hid hu
  clear h ht hs hp hu
  go_enter Tryd.func31, Tryd.ntmps31
  go_wp2_with fail
  have hst : UpR w hb g mb n cap L last c i t i L M (w.alloc (.cells #[.int .u64 t.d, .int .u64 t.what, .int .i64 t.h] 84)) :=
    ⟨hin, H.out.new ((Fr.refl _ _).alloc _), by rw [set_same HT.out], by rw [set_same HT.out]; exact HP.out, by rw [set_same HT.out]; exact HU.out, by rw [set_same HT.out]; exact id, block_alloc_new _ _, (Fr.refl _ _).alloc _⟩
  have HST := Lib.hid hst
  have hgl : g < w.heap.size ∧ mb < w.heap.size := by
    obtain ⟨cur, hg⟩ := H.out.block
    exact ⟨lt_of_block hg, H.out.map.lt⟩
  clear hst a0 a1 a2 i0 i1 c0
  go_loopw [1] (fun v wr => ∃ (k : Nat) (Lm : List Th) (Mk : Int → Option Value), v = .int .i64 k ∧ UpR w hb g mb n cap L last c i t k Lm Mk wr) (fun v _ => (intOf v).toNat)
  case atStart => exact ⟨i, L, M, rfl, HST.out⟩
  case round =>
    clear HST H HP HU
    obtain ⟨k, Lm, Mk, rfl, hr⟩ := hrel
    have HR := Lib.hid hr
    have hk := hr.lt
    have hlen := hr.row.len
    have c0 := cell_of_block hr.row.hd 0
    rw [show (#[Value.slice (some ⟨g, 0, none⟩) n cap, .map (some mb), .int .i64 last] : Array Value)[0]? = some (.slice (some ⟨g, 0, none⟩) n cap) from rfl] at c0
    have t0 := cell_of_block hr.tb 0
    have t1 := cell_of_block hr.tb 1
    have t2 := cell_of_block hr.tb 2
    have lt0 := lt_of_block hr.tb
    have lh := lt_of_block hr.row.hd
    rw [show (#[Value.int .u64 t.d, .int .u64 t.what, .int .i64 t.h] : Array Value)[0]? = some (.int .u64 t.d) from rfl] at t0
    rw [show (#[Value.int .u64 t.d, .int .u64 t.what, .int .i64 t.h] : Array Value)[1]? = some (.int .u64 t.what) from rfl] at t1
    rw [show (#[Value.int .u64 t.d, .int .u64 t.what, .int .i64 t.h] : Array Value)[2]? = some (.int .i64 t.h) from rfl] at t2
    by_cases hk0 : k = 0
    · subst hk0
      rw [show ((0 : Nat) : Int) = 0 from rfl]
      clear hr
      go_wp2_with fail
      go_quiet (fail)
      have hn : New wr (wr.drewN nq) := (Fr.refl _ _).drewN nq
      have t0' := (hn.cell lt0 id 0).trans t0
      have t1' := (hn.cell lt0 id 1).trans t1
      have t2' := (hn.cell lt0 id 2).trans t2
      have HLA := Lib.hid (lay_any hb g mb n cap Lm last c Mk 0 t _ (HR.out.row.new hn) (by omega) hft (up_cnt HR.out))
      have HN := Lib.hid hn
      clear t0 t1 t2 c0 hn
      generalize wr.drewN nq = w1 at *
      go_wp2_with fail
      rw [show (0 : Int) = ((0 : Nat) : Int) from rfl]
      refine HLA.out.mono ?_
      rintro e w2 ⟨rfl, hr2, hf2⟩
      go_wp2
      go_end0
      exact ⟨rfl, up_end HR.out HN.out hr2 hf2 HS.out (fun h => by omega)⟩
    · obtain ⟨q, hq⟩ : ∃ q, Lm[(k - 1) / 2]? = some q := ⟨Lm[(k - 1) / 2]'(by omega), by simp⟩
      obtain ⟨p, hp⟩ : ∃ p, (k - 1) / 2 = p := ⟨_, rfl⟩
      rw [hp] at hq
      have hfq := hr.row.fit q (List.mem_of_getElem? hq)
      obtain ⟨q0, q1, q2⟩ := hr.row.at hq
      have k1 : (0 : Int) < (k : Int) := by omega
      have k2 : decide (0 < k) = true := by simp; omega
      have e1 : IntKind.i64.wrap ((k : Int) - 1) = (k : Int) - 1 := IntWalk.i64_in _ (by omega)
      have e2 : IntKind.i64.wrap (((k : Int) - 1).tdiv 2) = (p : Int) := by
        rw [Int.tdiv_eq_ediv_of_nonneg (by omega), show ((k : Int) - 1) / 2 = (p : Int) by omega]
        exact IntWalk.i64_in _ (by omega)
      have p0 : (0 : Int) ≤ (p : Int) := by omega
      have p1 : (p : Int) < (n : Int) := by omega
      have HQ := Lib.hid hq
      have HPP := Lib.hid hp
      clear hr hq hp
      go_wp2_with fail
      refine heldStart (fun W1 => W1.cell? ⟨hb, 0, none⟩ = some (.slice (some ⟨g, 0, none⟩) n cap) ∧ W1.cell? ⟨w.heap.size, 0, none⟩ = some (.int .u64 t.d) ∧ W1.cell? ⟨w.heap.size, 1, none⟩ = some (.int .u64 t.what) ∧ W1.cell? ⟨w.heap.size, 2, none⟩ = some (.int .i64 t.h) ∧ W1.cell? ⟨g, p * 3, none⟩ = some (.int .u64 q.d) ∧ W1.cell? ⟨g, p * 3 + 1, none⟩ = some (.int .u64 q.what) ∧ W1.cell? ⟨g, p * 3 + 2, none⟩ = some (.int .i64 q.h)) (by kernel_rfl) ?_
      have hS : (fun W1 : World => W1.cell? ⟨hb, 0, none⟩ = some (.slice (some ⟨g, 0, none⟩) n cap) ∧ W1.cell? ⟨w.heap.size, 0, none⟩ = some (.int .u64 t.d) ∧ W1.cell? ⟨w.heap.size, 1, none⟩ = some (.int .u64 t.what) ∧ W1.cell? ⟨w.heap.size, 2, none⟩ = some (.int .i64 t.h) ∧ W1.cell? ⟨g, p * 3, none⟩ = some (.int .u64 q.d) ∧ W1.cell? ⟨g, p * 3 + 1, none⟩ = some (.int .u64 q.what) ∧ W1.cell? ⟨g, p * 3 + 2, none⟩ = some (.int .i64 q.h)) wr.drew := ⟨c0, t0, t1, t2, q0, q1, q2⟩
      refine wpAnyH_take (i := 0) (v := ?_) rfl (by kernel_rfl) (by kernel_rfl) (by kernel_rfl) (fun _ _ _ h => h) (Or.inl ⟨by rfl, ?_⟩) hS ?_
      rotate_left
      · intro w hSw; first | (obtain ⟨s1, s2, s3, s4, s5, s6, s7⟩ := hSw; go_simp; rfl) | (obtain ⟨s1, s2, s3⟩ := hSw; go_simp; rfl) | (obtain ⟨s1, s2⟩ := hSw; go_simp; rfl) | (have s1 := hSw; go_simp; rfl)
      go_simp
      refine wpAnyH_take (i := 1) (v := ?_) rfl (by kernel_rfl) (by kernel_rfl) (by kernel_rfl) (fun _ _ _ h => h) (Or.inl ⟨by rfl, ?_⟩) hS ?_
      rotate_left
      · intro w hSw; first | (obtain ⟨s1, s2, s3, s4, s5, s6, s7⟩ := hSw; go_simp; rfl) | (obtain ⟨s1, s2, s3⟩ := hSw; go_simp; rfl) | (obtain ⟨s1, s2⟩ := hSw; go_simp; rfl) | (have s1 := hSw; go_simp; rfl)
      go_simp
      refine wpAnyH_take (i := 2) (v := ?_) rfl (by kernel_rfl) (by kernel_rfl) (by kernel_rfl) (fun _ _ _ h => h) (Or.inl ⟨by rfl, ?_⟩) hS ?_
      rotate_left
      · intro w hSw; first | (obtain ⟨s1, s2, s3, s4, s5, s6, s7⟩ := hSw; go_simp; rfl) | (obtain ⟨s1, s2, s3⟩ := hSw; go_simp; rfl) | (obtain ⟨s1, s2⟩ := hSw; go_simp; rfl) | (have s1 := hSw; go_simp; rfl)
      go_simp
      refine wpAnyH_take (i := 3) (v := ?_) rfl (by kernel_rfl) (by kernel_rfl) (by kernel_rfl) (fun _ _ _ h => h) (Or.inl ⟨by rfl, ?_⟩) hS ?_
      rotate_left
      · intro w hSw; first | (obtain ⟨s1, s2, s3, s4, s5, s6, s7⟩ := hSw; go_simp; rfl) | (obtain ⟨s1, s2, s3⟩ := hSw; go_simp; rfl) | (obtain ⟨s1, s2⟩ := hSw; go_simp; rfl) | (have s1 := hSw; go_simp; rfl)
      go_simp
      refine wpAnyH_take (i := 4) (v := ?_) rfl (by kernel_rfl) (by kernel_rfl) (by kernel_rfl) (fun _ _ _ h => h) (Or.inl ⟨by rfl, ?_⟩) hS ?_
      rotate_left
      · intro w hSw; first | (obtain ⟨s1, s2, s3, s4, s5, s6, s7⟩ := hSw; go_simp; rfl) | (obtain ⟨s1, s2, s3⟩ := hSw; go_simp; rfl) | (obtain ⟨s1, s2⟩ := hSw; go_simp; rfl) | (have s1 := hSw; go_simp; rfl)
      go_simp
      refine wpAnyH_take (i := 5) (v := ?_) rfl (by kernel_rfl) (by kernel_rfl) (by kernel_rfl) (fun _ _ _ h => h) (Or.inl ⟨by rfl, ?_⟩) hS ?_
      rotate_left
      · intro w hSw; first | (obtain ⟨s1, s2, s3, s4, s5, s6, s7⟩ := hSw; go_simp; rfl) | (obtain ⟨s1, s2, s3⟩ := hSw; go_simp; rfl) | (obtain ⟨s1, s2⟩ := hSw; go_simp; rfl) | (have s1 := hSw; go_simp; rfl)
      go_simp
      refine wpAnyH_take (i := 6) (v := ?_) rfl (by kernel_rfl) (by kernel_rfl) (by kernel_rfl) (fun _ _ _ h => h) (Or.inl ⟨by rfl, ?_⟩) hS ?_
      rotate_left
      · intro w hSw; first | (obtain ⟨s1, s2, s3, s4, s5, s6, s7⟩ := hSw; go_simp; rfl) | (obtain ⟨s1, s2, s3⟩ := hSw; go_simp; rfl) | (obtain ⟨s1, s2⟩ := hSw; go_simp; rfl) | (have s1 := hSw; go_simp; rfl)
      go_simp
      refine wpAnyH_take (i := 7) (v := ?_) rfl (by kernel_rfl) (by kernel_rfl) (by kernel_rfl) (fun _ _ _ h => h) (Or.inl ⟨by rfl, ?_⟩) hS ?_
      rotate_left
      · intro w hSw; first | (obtain ⟨s1, s2, s3, s4, s5, s6, s7⟩ := hSw; go_simp; rfl) | (obtain ⟨s1, s2, s3⟩ := hSw; go_simp; rfl) | (obtain ⟨s1, s2⟩ := hSw; go_simp; rfl) | (have s1 := hSw; go_simp; rfl)
      go_simp
      refine wpAnyH_take (i := 8) (v := ?_) rfl (by kernel_rfl) (by kernel_rfl) (by kernel_rfl) (fun _ _ _ h => h) (Or.inl ⟨by rfl, ?_⟩) hS ?_
      rotate_left
      · intro w hSw; first | (obtain ⟨s1, s2, s3, s4, s5, s6, s7⟩ := hSw; go_simp; rfl) | (obtain ⟨s1, s2, s3⟩ := hSw; go_simp; rfl) | (obtain ⟨s1, s2⟩ := hSw; go_simp; rfl) | (have s1 := hSw; go_simp; rfl)
      go_simp
      refine wpAnyH_take (i := 9) (v := ?_) rfl (by kernel_rfl) (by kernel_rfl) (by kernel_rfl) (fun _ _ _ h => h) (Or.inl ⟨by rfl, ?_⟩) hS ?_
      rotate_left
      · intro w hSw; first | (obtain ⟨s1, s2, s3, s4, s5, s6, s7⟩ := hSw; go_simp; rfl) | (obtain ⟨s1, s2, s3⟩ := hSw; go_simp; rfl) | (obtain ⟨s1, s2⟩ := hSw; go_simp; rfl) | (have s1 := hSw; go_simp; rfl)
      go_simp
      refine wpAnyH_take (i := 10) (v := ?_) rfl (by kernel_rfl) (by kernel_rfl) (by kernel_rfl) (fun _ _ _ h => h) (Or.inl ⟨by rfl, ?_⟩) hS ?_
      rotate_left
      · intro w hSw; first | (obtain ⟨s1, s2, s3, s4, s5, s6, s7⟩ := hSw; go_simp; rfl) | (obtain ⟨s1, s2, s3⟩ := hSw; go_simp; rfl) | (obtain ⟨s1, s2⟩ := hSw; go_simp; rfl) | (have s1 := hSw; go_simp; rfl)
      go_simp
      refine wpAnyH_take (i := 11) (v := ?_) rfl (by kernel_rfl) (by kernel_rfl) (by kernel_rfl) (fun _ _ _ h => h) (Or.inl ⟨by rfl, ?_⟩) hS ?_
      rotate_left
      · intro w hSw; first | (obtain ⟨s1, s2, s3, s4, s5, s6, s7⟩ := hSw; go_simp; rfl) | (obtain ⟨s1, s2, s3⟩ := hSw; go_simp; rfl) | (obtain ⟨s1, s2⟩ := hSw; go_simp; rfl) | (have s1 := hSw; go_simp; rfl)
      go_simp
      refine wpAnyH_take (i := 12) (v := ?_) rfl (by kernel_rfl) (by kernel_rfl) (by kernel_rfl) (fun _ _ _ h => h) (Or.inl ⟨by rfl, ?_⟩) hS ?_
      rotate_left
      · intro w hSw; first | (obtain ⟨s1, s2, s3, s4, s5, s6, s7⟩ := hSw; go_simp; rfl) | (obtain ⟨s1, s2, s3⟩ := hSw; go_simp; rfl) | (obtain ⟨s1, s2⟩ := hSw; go_simp; rfl) | (have s1 := hSw; go_simp; rfl)
      go_simp
      clear e1 e2
      refine heldOne (i := 13) (by kernel_rfl) rfl (by rfl) (fun K hK => ?_)
      go_simp
      have hah := fun w => ahead_any t q w hft.1 hfq.1
      obtain ⟨x, hx⟩ : ∃ x, ahB t q = x := ⟨_, rfl⟩
      rw [hx] at hah
      have HX := Lib.hid hx
      refine (hah _).mono ?_
      clear hah hx
      rintro e w1 ⟨rfl, hn1⟩
      obtain ⟨r0, r1, r2, r3, r4, r5, r6⟩ := hS
      have hfd : New wr w1 := (Fr.refl _ _).drew.trans hn1
      have lg1 := Nat.lt_trans hgl.1 lt0
      have hS1 : (fun W1 : World => W1.cell? ⟨hb, 0, none⟩ = some (.slice (some ⟨g, 0, none⟩) n cap) ∧ W1.cell? ⟨w.heap.size, 0, none⟩ = some (.int .u64 t.d) ∧ W1.cell? ⟨w.heap.size, 1, none⟩ = some (.int .u64 t.what) ∧ W1.cell? ⟨w.heap.size, 2, none⟩ = some (.int .i64 t.h) ∧ W1.cell? ⟨g, p * 3, none⟩ = some (.int .u64 q.d) ∧ W1.cell? ⟨g, p * 3 + 1, none⟩ = some (.int .u64 q.what) ∧ W1.cell? ⟨g, p * 3 + 2, none⟩ = some (.int .i64 q.h)) w1 :=
        ⟨(hfd.cell lh id 0).trans c0, (hfd.cell lt0 id 0).trans t0, (hfd.cell lt0 id 1).trans t1, (hfd.cell lt0 id 2).trans t2, (hfd.cell lg1 id _).trans q0, (hfd.cell lg1 id _).trans q1, (hfd.cell lg1 id _).trans q2⟩
      refine hK.out _ _ hS1 ?_
      have HFD := Lib.hid hfd
      clear hK K hn1 hfd r0 r1 r2 r3 r4 r5 r6 c0 t0 t1 t2 q0 q1 q2
      refine wpAnyH_take (i := 14) (v := ?_) rfl (by kernel_rfl) (by kernel_rfl) (by kernel_rfl) (fun _ _ _ h => h) (Or.inl ⟨by rfl, ?_⟩) hS1 ?_
      rotate_left
      · intro w hSw; first | (obtain ⟨s1, s2, s3, s4, s5, s6, s7⟩ := hSw; go_simp; rfl) | (obtain ⟨s1, s2, s3⟩ := hSw; go_simp; rfl) | (obtain ⟨s1, s2⟩ := hSw; go_simp; rfl) | (have s1 := hSw; go_simp; rfl)
      refine wpAnyH_done (by kernel_rfl) ?_ _
      obtain ⟨c0, t0, t1, t2, q0, q1, q2⟩ := hS1
      have lt1 := Nat.lt_of_lt_of_le lt0 HFD.out.size
      have lh1 := Nat.lt_of_lt_of_le lh HFD.out.size
      have lg2 := Nat.lt_of_lt_of_le lg1 HFD.out.size
      cases x with
      | true =>
        have hcc := (HR.out.pl.step (HS.out.perm HR.out.perm) (getset (by omega)) (show (Lm.set k t)[p]? = some q by rw [List.getElem?_set_ne (by have := HPP.out; omega)]; exact HQ.out) (by have := HPP.out; omega))
        have HLA := Lib.hid (lay_any hb g mb n cap Lm last c Mk k q w1 (HR.out.row.new HFD.out) hk hfq (by
          left
          have := HR.out.pl.at' p q (by rw [List.getElem?_set_ne (by have := HPP.out; omega)]; exact HQ.out) (by have := HPP.out; omega)
          rw [this]; rfl))
        have HCC := Lib.hid hcc
        clear hcc
        rw [← HPP.out] at q0 q1 q2
        go_wp2_with fail
        refine HLA.out.mono ?_
        rintro e w2 ⟨rfl, hr2, hf2⟩
        have hun : UpR w hb g mb n cap L last c i t p (Lm.set k q) (mapUp Mk q.h k) w2 := by
          have hpn : p < n := by omega
          have h1 := HCC.out.1
          rw [List.set_set, HCC.out.2] at h1
          rw [HCC.out.2] at hr2
          have hkt : (Lm.set k t)[k]? = some t := getset (by omega)
          have hkq : (Lm.set k t)[p]? = some q := by rw [List.getElem?_set_ne (by have := HPP.out; omega)]; exact HQ.out
          have hpm := swap_perm hkt hkq
          have hfn := swap_fn hkt hkq
          rw [List.set_set] at hpm hfn
          have hah : ah (fn (Lm.set k t) k) (fn (Lm.set k t) ((k - 1) / 2)) := by rw [HPP.out, fn_at hkt, fn_at hkq]; exact ahB_true HX.out
          have hu := HR.out.up.step (by omega) hk hah
          have hc := HR.out.up.child (by omega) hah
          rw [HPP.out, ← hfn] at hu hc
          have hff := (HFD.out.mono (T := fun k => k = g ∨ k = mb) (fun _ _ h => h.elim)).trans hf2
          exact ⟨hpn, hr2, hpm.trans HR.out.perm, h1, hu, fun _ => hc, by rw [hff.block _ lt0 (by omega)]; exact HR.out.tb, HR.out.fr.trans hff⟩
        have HUN := Lib.hid hun
        clear hr2 hf2 hun HLA HCC HX
        go_wp2_with fail
        go_roundw
        case rel => exact ⟨p, _, _, by first | rfl | (congr 1; have := HPP.out; omega), HUN.out⟩
        case measure => simp [intOf]; omega
      | false =>
        have HLA := Lib.hid (lay_any hb g mb n cap Lm last c Mk k t w1 (HR.out.row.new HFD.out) hk hft (up_cnt HR.out))
        go_wp2_with fail
        refine HLA.out.mono ?_
        rintro e w2 ⟨rfl, hr2, hf2⟩
        go_wp2
        go_end0
        exact ⟨rfl, up_end HR.out HFD.out hr2 hf2 HS.out (fun h => by
          rw [HPP.out, fn_at (t := q) (by rw [List.getElem?_set_ne (by have := HPP.out; omega)]; exact HQ.out)]
          exact ahB_false HX.out)⟩

end Go.Proofs.YtafeopcbfgmjkaaDoor
