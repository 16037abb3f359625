/- The document's ring: making, putting in, taking out, dropping; slices of numbers compared. -/
import Derived.Test.YtgjogiddpfnamaaDoorRingE
import Derived.Test.YtgjogiddpfnamaaDoorNums
namespace Go.Proofs.YtgjogiddpfnamaaDoor
open Go.RowKit

/-- A slice's numbers, in no block of 'far'. -/
def Row (w : World) (far : Nat → Prop) (ao : Option Addr) (L : List Nat) : Prop :=
  (ao = none ∧ L = []) ∨ ∃ g off, ao = some ⟨g, off, none⟩ ∧ g < w.heap.size ∧ ¬ far g ∧ ∀ j x : Nat, L[j]? = some x → w.cell? ⟨g, off + j, none⟩ = some (.int .u64 x)
theorem Row.keep {w w' : World} {far S : Nat → Prop} {ao : Option Addr} {L : List Nat} (h : Row w far ao L) (f : Fr S w w') (hs : ∀ k, S k → far k) : Row w' far ao L := by
  rcases h with h | ⟨g, off, h1, h2, h3, h4⟩
  · exact .inl h
  · exact .inr ⟨g, off, h1, Nat.lt_of_lt_of_le h2 f.size, h3, fun j x hj => (f.cell h2 (fun e => h3 (hs g e)) _).trans (h4 j x hj)⟩
theorem Row.nats {w : World} {far : Nat → Prop} {ao : Option Addr} {L : List Nat} (h : Row w far ao L) : Nats w ao L := fun j x hj => by
  rcases h with ⟨_, rfl⟩ | ⟨g, off, h1, h2, h3, h4⟩
  · simp at hj
  · exact ⟨g, off, h1, h2, h4 j x hj⟩
theorem row_add {w : World} {g off : Nat} {L : List Nat} (h : ∀ j x : Nat, L[j]? = some x → w.cell? ⟨g, off + j, none⟩ = some (.int .u64 x)) : ∀ j u, (u64c L)[j]? = some u → w.cell? ((⟨g, off, none⟩ : Addr).add j) = some u := by
  intro j u hj
  unfold u64c at hj
  rw [List.getElem?_map] at hj
  obtain ⟨x, hx, rfl⟩ := Option.map_eq_some_iff.1 hj
  have := h j x hx
  unfold Addr.add; split <;> simp_all
theorem row_own {w : World} {base n : Nat} {v : Value} {L : List Nat} {far : Nat → Prop} (h : w.ownsRow base 34 1 v n (u64c L)) (hf : ∀ k, far k → k < base) : ∃ ao cap, v = .slice ao L.length cap ∧ L.length ≤ cap ∧ Row w far ao L := by
  have hn := h.1
  rw [u64c_len] at hn
  rcases h.2 with h2 | ⟨g, cap, cur, h1, h2, h3, h4, h5, h6, h7⟩
  · refine ⟨none, 0, ?_, by omega, .inl ⟨rfl, ?_⟩⟩
    · rw [h2.1]; congr 1; omega
    · exact List.eq_nil_of_length_eq_zero (by omega)
  · have hl : L.length = n := by omega
    refine ⟨_, cap, by rw [h1, hl], by omega, .inr ⟨g, 0, rfl, lt_of_block h3, fun e => by have := hf g e; omega, fun j x hj => ?_⟩⟩
    rw [cell_of_block h3, Nat.zero_add]
    have hj' : (u64c L)[j]? = some (.int .u64 x) := by simp [u64c, hj]
    rw [← h7, List.getElem?_take] at hj'
    split at hj'
    · rwa [Array.getElem?_toList] at hj'
    · cases hj'
theorem u64c_one (L : List Nat) : ∀ u ∈ u64c L, u.oneCell' = true := by
  intro u hu
  obtain ⟨x, _, rfl⟩ := List.mem_map.1 hu
  rfl

/-- Block rb is the document's ring. -/
structure RefRep (w : World) (rb : Nat) (far : Nat → Prop) (L : List Nat) (most : Nat) : Prop where
  out : ¬ far rb
  hd : ∃ ao cap, Arr w rb [.slice ao L.length cap, .int .i64 most] ∧ L.length ≤ cap ∧ Row w (fun k => far k ∨ k = rb) ao L
  fits : ∀ x ∈ L, x < 18446744073709551616
  few : L.length ≤ most ∧ most ≤ 100000
theorem RefRep.keep {w w' : World} {rb : Nat} {far S : Nat → Prop} {L : List Nat} {most : Nat} (h : RefRep w rb far L most) (f : Fr S w w') (hs : ∀ k, S k → far k) : RefRep w' rb far L most := by
  obtain ⟨h1, ⟨ao, cap, h2, h3, h4⟩, h5, h6⟩ := h
  exact ⟨h1, ⟨ao, cap, h2.keep f (fun e => h1 (hs _ e)), h3, h4.keep f (fun k hk => .inl (hs k hk))⟩, h5, h6⟩

set_option maxRecDepth 100000 in
set_option maxHeartbeats 400000 in
theorem rnew_any (n : Nat) (far : Nat → Prop) (w : World) (h1 : 1 ≤ n) (h2 : n ≤ 4096) (hf : ∀ k, far k → k < w.heap.size) :
    Calls Tryd.prog 15 #[.int .i64 n] w fun e w' => ∃ rb, e = .returned (.tuple #[.pointer (some ⟨rb, 0, none⟩), .pointer none]) ∧ w.heap.size ≤ rb ∧ RefRep w' rb far [] n ∧ New w w' := by
  go_enter Tryd.func15, Tryd.ntmps15
  go_wp2
  go_ret2
  exact ⟨_, rfl, Nat.le_refl _, ⟨fun e => by have := hf _ e; omega, ⟨none, 0, Arr.new _ _ _, Nat.le_refl _, .inl ⟨rfl, rfl⟩⟩, fun x hx => by simp at hx, by simp, by omega⟩, (Fr.refl _ _).alloc _⟩

theorem rput_end {rb : Nat} {far : Nat → Prop} {L L' : List Nat} {most n : Nat} {w w2 : World} {ao ao2 : Option Addr} {cap cap2 : Nat} (h : RefRep w rb far L most) (ha : Arr w rb [.slice ao n cap, .int .i64 most]) (f : Fr (fun k => w.heap.size ≤ k) w w2)
    (hc : L'.length ≤ cap2) (hr : Row w2 (fun k => far k ∨ k = rb) ao2 L') (hl : L'.length ≤ most) (hfit : ∀ x ∈ L', x < 18446744073709551616) :
    RefRep (w2.setCell ⟨rb, 0, none⟩ (.slice ao2 L'.length cap2)) rb far L' most ∧ Fr (· = rb) w (w2.setCell ⟨rb, 0, none⟩ (.slice ao2 L'.length cap2)) := by
  have hlt := ha.lt
  have ha2 := ha.keep f (by omega)
  refine ⟨⟨h.out, ⟨ao2, cap2, ha2.set 0 _, hc, ?_⟩, hfit, hl, h.few.2⟩, ⟨f.os, f.tape, f.output, by simpa using f.size, fun k hk hs => by rw [block_setCell_ne hs]; exact f.block k hk (by omega)⟩⟩
  · rcases hr with h1 | ⟨g, off, h1, h2, h3, h4⟩
    · exact .inl h1
    · exact .inr ⟨g, off, h1, by simpa using h2, h3, fun j x hj => by rw [cell_set_ne _ (.inl (fun e => h3 (.inr e.symm)))]; exact h4 j x hj⟩

set_option maxRecDepth 100000 in
set_option maxHeartbeats 1000000 in
theorem rput_ok (rb : Nat) (far : Nat → Prop) (L : List Nat) (most v : Nat) (w : World) (h : RefRep w rb far L most) (hn : L.length < most) (hv : v < 18446744073709551616) (hf : ∀ k, far k → k < w.heap.size) :
    Calls Tryd.prog 19 #[.pointer (some ⟨rb, 0, none⟩), .int .u64 v] w fun e w' => e = .returned (.pointer none) ∧ RefRep w' rb far (L ++ [v]) most ∧ Fr (· = rb) w w' := by
  obtain ⟨ao, cap, ha, hcap, hrow⟩ := h.hd
  have l1 := ha.lt
  have c0 := ha.cell 0 _ rfl
  have c1 := ha.cell 1 _ rfl
  have hfew := h.few
  have z0 := ha.free 0
  have hge : ¬ ((most : Int) ≤ (L.length : Int)) := by omega
  have t1 : decide (most ≤ L.length) = false := by simp; omega
  obtain ⟨i0, hi, hz0, hz1, hz2⟩ := info_parts u64Info
  obtain ⟨n, hL⟩ : ∃ n, L.length = n := ⟨_, rfl⟩
  rw [hL] at c0 hfew hn hge t1 hcap
  have HL := Lib.hid hL
  have H := Lib.hid h
  have HA := Lib.hid ha
  have HROW := Lib.hid hrow
  clear h hrow ha hL
  rcases HROW.out with ⟨rfl, hLe⟩ | ⟨g, off, rfl, hg, hgf, hcell⟩
  · obtain rfl : n = 0 := by have := HL.out; rw [hLe] at this; simpa using this.symm
    subst hLe
    have hmost : ¬ ((most : Int) ≤ 0) := by omega
    rw [show (((0 : Nat)) : Int) = 0 from rfl] at *
    go_enter Tryd.func19, Tryd.ntmps19
    go_wp2_with fail
    go_quiet (fail)
    have f0 : New w (w.drewN nq) := (Fr.refl _ _).drewN nq
    generalize w.drewN nq = w0 at f0 ⊢
    have d0 := (f0.cell l1 id 0).trans c0
    have zz0 := (f0.frozen l1 id 0).trans z0
    have hwl := f0.size
    have l0 : rb < w0.heap.size := by omega
    have F0 := Lib.hid f0
    have hown := World.ownsRow_lit (base := w0.heap.size) (e := 34) (size := 1) w0 #[] 0 (Nat.le_refl _) (Nat.zero_le _) rfl
    clear c0 f0 z0
    go_wp2_with (at_builtin; refine wpList_append_own _ rfl (.tmp 22) (.tmp 24) 49 rfl w0.heap.size 34 i0 _ 1 8 Tryd.underlying49 hi hz0 hz1 hz2 rfl (by decide) _ _ _ rfl (hown.alloc _) ⟨w0.heap.size + 1, 0, none⟩ 1 1 [.int .u64 v] rfl rfl (Arr.add (by have := Arr.new (w0.alloc (.cells #[] 34)) #[.int .u64 v] 34; rw [World.size_alloc] at this; exact this)) (by simp [Value.oneCell']) (by unfold maxLen; omega) (by omega) (by simp; omega) ?_; intro v2 w2 hown2 hgrow2 hnil2; rw [show (#[] : Array Value).toList ++ [.int .u64 v] = u64c [v] from rfl] at hown2; have f2 : Fr (fun k => w0.heap.size ≤ k) w0 w2 := (((Fr.refl _ w0).alloc _).alloc _).grown hgrow2 (fun k hk _ => by cases hk; exact Nat.le_refl _); have hs2 := f2.size; have d2 := (f2.cell l0 (by omega) 0).trans d0; have y2 := (f2.frozen l0 (by omega) 0).trans zz0; obtain ⟨ao2, cap2, rfl, hcap2, hrow2⟩ := row_own (far := fun k => far k ∨ k = rb) hown2 (fun k hk => by rcases hk with hk | hk; have := hf k hk; omega; omega); have HR2 := Lib.hid hrow2; have F2 := Lib.hid f2; clear hgrow2 hnil2 hown2 hrow2 f2 hown)
    go_ret
    have fall : Fr (fun k => w.heap.size ≤ k) w w2 := (F0.out.mono (fun _ _ h => h.elim)).trans (F2.out.mono (fun k _ hk => by omega))
    have hend := rput_end H.out HA.out fall (L' := [v]) hcap2 HR2.out (by simp; omega) (fun x hx => by rw [List.mem_singleton.1 hx]; exact hv)
    exact ⟨rfl, hend⟩
  · have HCE := Lib.hid hcell
    clear hcell
    go_enter Tryd.func19, Tryd.ntmps19
    go_wp2_with fail
    go_quiet (fail)
    have f0 : New w (w.drewN nq) := (Fr.refl _ _).drewN nq
    generalize w.drewN nq = w0 at f0 ⊢
    have d0 := (f0.cell l1 id 0).trans c0
    have zz0 := (f0.frozen l1 id 0).trans z0
    have hs0 := f0.size
    have hce0 : ∀ j u, (u64c L)[j]? = some u → (w0.alloc (.cells #[] 34)).cell? ((⟨g, off, none⟩ : Addr).add j) = some u := row_add (fun j x hj => by rw [World.cell?_alloc_past _ _ _ (by show g < _; omega)]; exact (f0.cell hg id _).trans (HCE.out j x hj))
    have HC0 := Lib.hid hce0
    have F0 := Lib.hid f0
    have hown := World.ownsRow_lit (base := w0.heap.size) (e := 34) (size := 1) w0 #[] 0 (Nat.le_refl _) (Nat.zero_le _) rfl
    have hlen : (u64c L).length = n * 1 := by rw [u64c_len, HL.out]; omega
    have HLE := Lib.hid hlen
    have l0 : rb < w0.heap.size := by omega
    have hwl : w.heap.size ≤ w0.heap.size := hs0
    clear c0 hce0 hlen f0 z0 hs0
    go_wp2_with (first
      | (at_builtin; refine wpList_append_own _ rfl (.tmp 17) (.tmp 21) 49 rfl w0.heap.size 34 i0 _ 1 8 Tryd.underlying49 hi hz0 hz1 hz2 rfl (by decide) _ _ _ rfl hown ⟨g, off, none⟩ n cap (u64c L) rfl HLE.out HC0.out (u64c_one L) (by unfold maxLen; omega) (by omega) (by simp) ?_; intro v1 w1 hown1 hgrow1 hnil1; rw [List.nil_append, Nat.zero_add] at hown1; have f1 : Fr (fun k => w0.heap.size ≤ k) w0 w1 := ((Fr.refl _ w0).alloc _).grown hgrow1 (fun k hk _ => by cases hk; exact Nat.le_refl _); have hs1 := f1.size; have d1 := (f1.cell l0 (by omega) 0).trans d0; have y1 := (f1.frozen l0 (by omega) 0).trans zz0; have F1 := Lib.hid f1; clear hgrow1 hnil1 f1)
      | (at_builtin; refine wpList_append_own _ rfl (.tmp 22) (.tmp 24) 49 rfl w0.heap.size 34 i0 _ 1 8 Tryd.underlying49 hi hz0 hz1 hz2 rfl (by decide) _ _ _ rfl (hown1.alloc _) ⟨w1.heap.size, 0, none⟩ 1 1 [.int .u64 v] rfl rfl (Arr.add (Arr.new _ _ _)) (by simp [Value.oneCell']) (by unfold maxLen; omega) (by omega) (by simp; omega) ?_; intro v2 w2 hown2 hgrow2 hnil2; rw [← u64c_snoc] at hown2; have f2 : Fr (fun k => w0.heap.size ≤ k) w1 w2 := ((Fr.refl _ w1).alloc _).grown hgrow2 (fun k hk _ => (hown1.lt k hk).1); have hs2 := f2.size; have d2 := (f2.cell (by omega) (by omega) 0).trans d1; have y2 := (f2.frozen (by omega) (by omega) 0).trans y1; obtain ⟨ao2, cap2, rfl, hcap2, hrow2⟩ := row_own (far := fun k => far k ∨ k = rb) hown2 (fun k hk => by rcases hk with hk | hk; have := hf k hk; omega; omega); have HR2 := Lib.hid hrow2; have F2 := Lib.hid f2; clear hgrow2 hnil2 hown2 hrow2 f2 d1 y1 hown1))
    go_ret
    have fall : Fr (fun k => w.heap.size ≤ k) w w2 := ((F0.out.mono (fun _ _ h => h.elim)).trans (F1.out.mono (fun k _ hk => by omega))).trans (F2.out.mono (fun k _ hk => by omega))
    have hend := rput_end H.out HA.out fall (L' := L ++ [v]) hcap2 HR2.out (by have := HL.out; simp; omega) (fun x hx => by rcases List.mem_append.1 hx with hx | hx; exact H.out.fits x hx; rw [List.mem_singleton.1 hx]; exact hv)
    rw [show (L ++ [v]).length = L.length + 1 by simp] at hend
    exact ⟨rfl, hend⟩

set_option maxRecDepth 100000 in
set_option maxHeartbeats 1000000 in
theorem rput_full (rb : Nat) (far : Nat → Prop) (L : List Nat) (most v : Nat) (w : World) (h : RefRep w rb far L most) (hn : L.length = most) :
    Calls Tryd.prog 19 #[.pointer (some ⟨rb, 0, none⟩), .int .u64 v] w fun e w' => ∃ f, e = .returned f ∧ SaysF w' ringS f (some (0, 3)) ∧ New w w' := by
  obtain ⟨ao, cap, ha, hcap, hrow⟩ := h.hd
  have l1 := ha.lt
  have c0 := ha.cell 0 _ rfl
  have c1 := ha.cell 1 _ rfl
  have t1 : decide (most ≤ L.length) = true := by simp; omega
  have hge : (most : Int) ≤ (L.length : Int) := by omega
  have hno := fun w => no_any ringS 0 3 w
  have HNO := Lib.hid hno
  clear h hrow ha hno hn
  go_enter Tryd.func19, Tryd.ntmps19
  go_wp2_with fail
  go_quiet (fail)
  have f0 : New w (w.drewN nq) := (Fr.refl _ _).drewN nq
  generalize w.drewN nq = w0 at f0 ⊢
  clear c0 c1
  go_wp2_with fail
  refine (HNO.out _).mono ?_
  rintro e w1 ⟨f, rfl, hf, hn1⟩
  have HF := Lib.hid hf
  have HN := Lib.hid (f0.trans hn1)
  clear hf hn1 f0
  go_wp2
  go_ret
  exact ⟨f, rfl, HF.out, HN.out⟩

set_option maxRecDepth 100000 in
set_option maxHeartbeats 1000000 in
theorem rtake_nil (rb : Nat) (far : Nat → Prop) (most : Nat) (w : World) (h : RefRep w rb far [] most) :
    Calls Tryd.prog 16 #[.pointer (some ⟨rb, 0, none⟩)] w fun e w' => e = .returned (.tuple #[.int .u64 0, .bool false]) ∧ w = w' := by
  obtain ⟨ao, cap, ha, hcap, hrow⟩ := h.hd
  have l1 := ha.lt
  have c0 := ha.cell 0 _ rfl
  rw [show ([] : List Nat).length = 0 from rfl] at c0
  clear h hrow ha
  go_enter Tryd.func16, Tryd.ntmps16
  go_wp2
  go_ret2
  exact ⟨rfl, rfl⟩

set_option maxRecDepth 100000 in
set_option maxHeartbeats 1000000 in
theorem rtake_ok (rb : Nat) (far : Nat → Prop) (x : Nat) (r : List Nat) (most : Nat) (w : World) (h : RefRep w rb far (x :: r) most) (hf : ∀ k, far k → k < w.heap.size) :
    Calls Tryd.prog 16 #[.pointer (some ⟨rb, 0, none⟩)] w fun e w' => e = .returned (.tuple #[.int .u64 x, .bool true]) ∧ RefRep w' rb far r most ∧ Fr (· = rb) w w' := by
  obtain ⟨ao, cap, ha, hcap, hrow⟩ := h.hd
  have l1 := ha.lt
  have c0 := ha.cell 0 _ rfl
  have z0 := ha.free 0
  obtain ⟨n, hL⟩ : ∃ n, r.length = n := ⟨_, rfl⟩
  have hfew := h.few
  rw [List.length_cons, hL] at c0 hcap hfew
  obtain ⟨i0, hi, hz0, hz1, hz2⟩ := info_parts u64Info
  have t1 : ((n : Int) + 1 == 0) = false := beq_eq_false_iff_ne.2 (by omega)
  rcases hrow with ⟨_, hLe⟩ | ⟨g, off, rfl, hg, hgf, hcell⟩
  · cases hLe
  have cx := hcell 0 x rfl
  rw [Nat.add_zero] at cx
  have hlen : (u64c r).length = n * 1 := by rw [u64c_len, hL]; omega
  have HL := Lib.hid hL
  have HLE := Lib.hid hlen
  have HCE := Lib.hid hcell
  have H := Lib.hid h
  have HA := Lib.hid ha
  have hown := World.ownsRow_lit (base := w.heap.size) (e := 34) (size := 1) w #[] 0 (Nat.le_refl _) (Nat.zero_le _) rfl
  clear h ha hL hlen hcell
  by_cases hc : cap = 1
  · obtain rfl : n = 0 := by omega
    obtain rfl : r = [] := List.eq_nil_of_length_eq_zero HL.out
    subst hc
    rw [show (((0 : Nat)) : Int) = 0 from rfl] at *
    go_enter Tryd.func16, Tryd.ntmps16
    go_wp2_with (at_builtin; refine wpList_append_own _ rfl (.tmp 18) (.tmp 23) 49 rfl w.heap.size 34 i0 _ 1 8 Tryd.underlying49 hi hz0 hz1 hz2 rfl (by decide) _ _ _ rfl hown ⟨g, off, none⟩ 0 0 (u64c []) rfl rfl (by intro j u hj; simp [u64c] at hj) (u64c_one []) (by unfold maxLen; omega) (by omega) (by simp) ?_; intro v1 w1 hown1 hgrow1 hnil1; rw [List.nil_append, Nat.zero_add] at hown1; have f1 : Fr (fun k => w.heap.size ≤ k) w w1 := ((Fr.refl _ w).alloc _).grown hgrow1 (fun k hk _ => by cases hk; exact Nat.le_refl _); have hs1 := f1.size; have d1 := (f1.cell l1 (by omega) 0).trans c0; have y1 := (f1.frozen l1 (by omega) 0).trans z0; obtain ⟨ao2, cap2, rfl, hcap2, hrow2⟩ := row_own (far := fun k => far k ∨ k = rb) hown1 (fun k hk => by rcases hk with hk | hk; have := hf k hk; omega; omega); have HR2 := Lib.hid hrow2; have F1 := Lib.hid f1; clear hgrow1 hnil1 hown1 hrow2 f1 hown)
    go_ret2
    have hend := rput_end H.out HA.out F1.out (L' := []) hcap2 HR2.out (by simp) (fun y hy => by simp at hy)
    exact ⟨rfl, hend⟩
  · have hc1 : (1 : Int) < (cap : Int) := by omega
    have hce0 : ∀ j u, (u64c r)[j]? = some u → (w.alloc (.cells #[] 34)).cell? ((⟨g, off + 1, none⟩ : Addr).add j) = some u := row_add (fun j y hj => by rw [World.cell?_alloc_past _ _ _ (by show g < _; omega)]; have := HCE.out (j + 1) y (by simpa using hj); rw [← this]; congr 2; omega)
    have HC0 := Lib.hid hce0
    clear hce0
    go_enter Tryd.func16, Tryd.ntmps16
    go_wp2_with (at_builtin; refine wpList_append_own _ rfl (.tmp 18) (.tmp 23) 49 rfl w.heap.size 34 i0 _ 1 8 Tryd.underlying49 hi hz0 hz1 hz2 rfl (by decide) _ _ _ rfl hown ⟨g, off + 1, none⟩ n (cap - 1) (u64c r) rfl HLE.out HC0.out (u64c_one r) (by unfold maxLen; omega) (by omega) (by simp) ?_; intro v1 w1 hown1 hgrow1 hnil1; rw [List.nil_append, Nat.zero_add] at hown1; have f1 : Fr (fun k => w.heap.size ≤ k) w w1 := ((Fr.refl _ w).alloc _).grown hgrow1 (fun k hk _ => by cases hk; exact Nat.le_refl _); have hs1 := f1.size; have d1 := (f1.cell l1 (by omega) 0).trans c0; have y1 := (f1.frozen l1 (by omega) 0).trans z0; obtain ⟨ao2, cap2, rfl, hcap2, hrow2⟩ := row_own (far := fun k => far k ∨ k = rb) hown1 (fun k hk => by rcases hk with hk | hk; have := hf k hk; omega; omega); have HR2 := Lib.hid hrow2; have F1 := Lib.hid f1; clear hgrow1 hnil1 hown1 hrow2 f1 hown)
    go_ret2
    have hend := rput_end H.out HA.out F1.out (L' := r) hcap2 HR2.out (by have := HL.out; omega) (fun y hy => H.out.fits y (List.mem_cons_of_mem _ hy))
    exact ⟨rfl, hend⟩

theorem u64c_erase (L : List Nat) (q : Nat) : u64c (L.take q) ++ u64c (L.drop (q + 1)) = u64c (L.eraseIdx q) := by
  unfold u64c
  rw [← List.map_append, List.eraseIdx_eq_take_drop_succ]

set_option maxRecDepth 100000 in
set_option maxHeartbeats 2000000 in
theorem rdrop_any (rb : Nat) (far : Nat → Prop) (L : List Nat) (most v : Nat) (w : World) (h : RefRep w rb far L most) (hf : ∀ k, far k → k < w.heap.size) :
    Calls Tryd.prog 18 #[.pointer (some ⟨rb, 0, none⟩), .int .u64 v] w fun e w' => e = .returned (.bool (L.contains v)) ∧ RefRep w' rb far (L.erase v) most ∧ Fr (· = rb) w w' := by
  obtain ⟨ao, cap, ha, hcap, hrow⟩ := h.hd
  have l1 := ha.lt
  have c0 := ha.cell 0 _ rfl
  have z0 := ha.free 0
  obtain ⟨n, hL⟩ : ∃ n, L.length = n := ⟨_, rfl⟩
  have hfew := h.few
  rw [hL] at c0 hcap hfew
  obtain ⟨i0, hi, hz0, hz1, hz2⟩ := info_parts u64Info
  obtain ⟨bb, hbb⟩ : ∃ bb, L.contains v = bb := ⟨_, rfl⟩
  rw [hbb]
  have HBB := Lib.hid hbb
  clear hbb
  have HL := Lib.hid hL
  have HROW := Lib.hid hrow
  have H := Lib.hid h
  have HA := Lib.hid ha
  clear h ha hL hrow
  go_enter Tryd.func18, Tryd.ntmps18
  go_wp2_with fail
  go_loop [5] (fun i => ∃ q : Nat, q ≤ n ∧ i = .int .i64 q ∧ ∀ j y : Nat, j < q → L[j]? = some y → y ≠ v) (fun i => n - (intOf i).toNat)
  case atStart => exact ⟨0, by omega, rfl, fun j y hj => by omega⟩
  case round =>
    obtain ⟨q, hq, rfl, hno⟩ := hrel
    have HNO := Lib.hid hno
    clear hno
    by_cases hlt : q < n
    · obtain ⟨x, hx⟩ : ∃ x, L[q]? = some x := ⟨L[q]'(by rw [HL.out]; exact hlt), by simp⟩
      rcases HROW.out with ⟨_, hLe⟩ | ⟨g, off, rfl, hg, hgf, hcell⟩
      · rw [hLe] at hx; simp at hx
      have cq := hcell q x hx
      have HX := Lib.hid hx
      have HCE := Lib.hid hcell
      clear hx hcell
      by_cases hxv : x = v
      · have t1 : ((x : Int) == (v : Int)) = true := by rw [hxv]; simp
        obtain ⟨e1, e2⟩ := erase_first (L := L) (q := q) (v := v) (by rw [HX.out, hxv]) (fun j y hj hy => HNO.out j y hj hy)
        have E1 := Lib.hid e1
        have E2 := Lib.hid e2
        have hlen1 : (u64c (L.take q)).length = q * 1 := by rw [u64c_len, List.length_take, HL.out]; omega
        have hlen2 : (u64c (L.drop (q + 1))).length = (n - (q + 1)) * 1 := by rw [u64c_len, List.length_drop, HL.out]; omega
        have HL1 := Lib.hid hlen1
        have HL2 := Lib.hid hlen2
        have hown := World.ownsRow_lit (base := w.heap.size) (e := 34) (size := 1) w #[] 0 (Nat.le_refl _) (Nat.zero_le _) rfl
        have hce0 : ∀ j u, (u64c (L.take q))[j]? = some u → (w.alloc (.cells #[] 34)).cell? ((⟨g, off, none⟩ : Addr).add j) = some u := row_add (fun j y hj => by rw [World.cell?_alloc_past _ _ _ (by show g < _; omega)]; rw [List.getElem?_take] at hj; split at hj; exact HCE.out j y hj; cases hj)
        have HC0 := Lib.hid hce0
        have q1 : (q : Int) + 1 ≤ (n : Int) := by omega
        have q2 : (q : Int) ≤ (cap : Int) := by omega
        have q3 : (n : Int) ≤ (cap : Int) := by omega
        have q4 : (q : Int) + 1 ≤ (cap : Int) := by omega
        clear hce0 hlen1 hlen2 e1 e2 hxv
        by_cases hc : cap = q + 1
        · obtain rfl : n = q + 1 := by omega
          have HDR := Lib.hid (show L.drop (q + 1) = [] from List.drop_eq_nil_of_le (by rw [HL.out]; omega))
          have HL2 := Lib.hid (show (u64c (L.drop (q + 1))).length = 0 * 1 by rw [HDR.out]; rfl)
          subst hc
          go_wp2_with (first
            | (at_builtin; refine wpList_append_own _ rfl (.tmp 25) (.tmp 31) 49 rfl w.heap.size 34 i0 _ 1 8 Tryd.underlying49 hi hz0 hz1 hz2 rfl (by decide) _ _ _ rfl hown ⟨g, off, none⟩ q (q + 1) (u64c (L.take q)) rfl HL1.out HC0.out (u64c_one _) (by unfold maxLen; omega) (by omega) (by simp) ?_; intro v1 w1 hown1 hgrow1 hnil1; rw [List.nil_append, Nat.zero_add] at hown1; have f1 : Fr (fun k => w.heap.size ≤ k) w w1 := ((Fr.refl _ w).alloc _).grown hgrow1 (fun k hk _ => by cases hk; exact Nat.le_refl _); have hs1 := f1.size; have d1 := (f1.cell l1 (by omega) 0).trans c0; have y1 := (f1.frozen l1 (by omega) 0).trans z0; have hce1 : ∀ j u, (u64c (L.drop (q + 1)))[j]? = some u → w1.cell? ((⟨g, off, none⟩ : Addr).add j) = some u := fun j u hj => absurd hj (by rw [HDR.out]; simp [u64c]); have HC1 := Lib.hid hce1; have F1 := Lib.hid f1; clear hgrow1 hnil1 hce1 f1)
            | (at_builtin; refine wpList_append_own _ rfl (.tmp 34) (.tmp 41) 49 rfl w.heap.size 34 i0 _ 1 8 Tryd.underlying49 hi hz0 hz1 hz2 rfl (by decide) _ _ _ rfl hown1 ⟨g, off, none⟩ 0 0 (u64c (L.drop (q + 1))) rfl HL2.out HC1.out (u64c_one _) (by unfold maxLen; omega) (by omega) (by omega) ?_; intro v2 w2 hown2 hgrow2 hnil2; rw [u64c_erase, ← E1.out] at hown2; have f2 : Fr (fun k => w.heap.size ≤ k) w1 w2 := (Fr.refl _ w1).grown hgrow2 (fun k hk _ => (hown1.lt k hk).1); have hs2 := f2.size; have d2 := (f2.cell (by omega) (by omega) 0).trans d1; have y2 := (f2.frozen (by omega) (by omega) 0).trans y1; obtain ⟨ao2, cap2, rfl, hcap2, hrow2⟩ := row_own (far := fun k => far k ∨ k = rb) hown2 (fun k hk => by rcases hk with hk | hk; have := hf k hk; omega; omega); have HR2 := Lib.hid hrow2; have F2 := Lib.hid f2; clear hgrow2 hnil2 hown2 hrow2 f2 d1 y1 hown1))
          go_ret
          have hend := rput_end H.out HA.out (F1.out.trans F2.out) (L' := L.erase v) hcap2 HR2.out (by have := List.length_erase_le (a := v) (l := L); have := HL.out; omega) (fun y hy => H.out.fits y (List.mem_of_mem_erase hy))
          exact ⟨ret_bool (by rw [← HBB.out]; exact E2.out.symm), hend⟩
        · have q5 : ¬ ((cap : Int) = (q : Int) + 1) := by omega
          go_wp2_with (first
            | (at_builtin; refine wpList_append_own _ rfl (.tmp 25) (.tmp 31) 49 rfl w.heap.size 34 i0 _ 1 8 Tryd.underlying49 hi hz0 hz1 hz2 rfl (by decide) _ _ _ rfl hown ⟨g, off, none⟩ q cap (u64c (L.take q)) rfl HL1.out HC0.out (u64c_one _) (by unfold maxLen; omega) (by omega) (by simp) ?_; intro v1 w1 hown1 hgrow1 hnil1; rw [List.nil_append, Nat.zero_add] at hown1; have f1 : Fr (fun k => w.heap.size ≤ k) w w1 := ((Fr.refl _ w).alloc _).grown hgrow1 (fun k hk _ => by cases hk; exact Nat.le_refl _); have hs1 := f1.size; have d1 := (f1.cell l1 (by omega) 0).trans c0; have y1 := (f1.frozen l1 (by omega) 0).trans z0; have hce1 : ∀ j u, (u64c (L.drop (q + 1)))[j]? = some u → w1.cell? ((⟨g, off + (q + 1), none⟩ : Addr).add j) = some u := row_add (fun j y hj => by rw [List.getElem?_drop] at hj; have := (f1.cell hg (by omega) _).trans (HCE.out _ y hj); rw [← this]; congr 2; omega); have HC1 := Lib.hid hce1; have F1 := Lib.hid f1; clear hgrow1 hnil1 hce1 f1)
            | (at_builtin; refine wpList_append_own _ rfl (.tmp 34) (.tmp 41) 49 rfl w.heap.size 34 i0 _ 1 8 Tryd.underlying49 hi hz0 hz1 hz2 rfl (by decide) _ _ _ rfl hown1 ⟨g, off + (q + 1), none⟩ (n - (q + 1)) (cap - (q + 1)) (u64c (L.drop (q + 1))) rfl HL2.out HC1.out (u64c_one _) (by unfold maxLen; omega) (by omega) (by omega) ?_; intro v2 w2 hown2 hgrow2 hnil2; rw [u64c_erase, ← E1.out] at hown2; have f2 : Fr (fun k => w.heap.size ≤ k) w1 w2 := (Fr.refl _ w1).grown hgrow2 (fun k hk _ => (hown1.lt k hk).1); have hs2 := f2.size; have d2 := (f2.cell (by omega) (by omega) 0).trans d1; have y2 := (f2.frozen (by omega) (by omega) 0).trans y1; obtain ⟨ao2, cap2, rfl, hcap2, hrow2⟩ := row_own (far := fun k => far k ∨ k = rb) hown2 (fun k hk => by rcases hk with hk | hk; have := hf k hk; omega; omega); have HR2 := Lib.hid hrow2; have F2 := Lib.hid f2; clear hgrow2 hnil2 hown2 hrow2 f2 d1 y1 hown1))
          go_ret
          have hend := rput_end H.out HA.out (F1.out.trans F2.out) (L' := L.erase v) hcap2 HR2.out (by have := List.length_erase_le (a := v) (l := L); have := HL.out; omega) (fun y hy => H.out.fits y (List.mem_of_mem_erase hy))
          exact ⟨ret_bool (by rw [← HBB.out]; exact E2.out.symm), hend⟩
      · have t1 : ((x : Int) == (v : Int)) = false := by rw [beq_eq_false_iff_ne]; omega
        go_wp2_with fail
        go_round
        case rel => exact ⟨q + 1, by omega, by go_num, fun j y hj hy => by
          by_cases e : j = q
          · subst e; rw [HX.out] at hy; rw [← Option.some.inj hy]; exact hxv
          · exact HNO.out j y (by omega) hy⟩
        case measure => simp [intOf]; omega
    · go_wp2
      go_ret
      obtain ⟨e1, e2⟩ := erase_never (L := L) (v := v) (fun j y hy => HNO.out j y (by have := (List.getElem?_eq_some_iff.1 hy).1; have := HL.out; omega) hy)
      exact ⟨ret_bool (by rw [← HBB.out]; exact e2.symm), by rw [e1]; exact H.out, Fr.refl _ _⟩

set_option maxRecDepth 100000 in
set_option maxHeartbeats 1000000 in
theorem words_same (L : List Nat) (ao bo : Option Addr) (ca cb : Nat) (w : World) (ha : Nats w ao L) (hb : Nats w bo L) (hm : L.length ≤ 9223372036854775807) :
    Calls Tryd.prog 21 #[.slice ao L.length ca, .slice bo L.length cb] w fun e w' => e = .returned (.bool true) ∧ New w w' := by
  obtain ⟨n, hL⟩ : ∃ n, L.length = n := ⟨_, rfl⟩
  rw [hL] at hm ⊢
  have HL := Lib.hid hL
  have HA := Lib.hid ha
  have HB := Lib.hid hb
  clear hL ha hb
  have t0 : ((n : Int) != (n : Int)) = false := by simp
  go_enter Tryd.func21, Tryd.ntmps21
  go_wp2_with fail
  go_loopw [5] (fun i wr => ∃ k : Nat, k ≤ n ∧ i = .int .i64 k ∧ New w wr) (fun i _ => n - (intOf i).toNat)
  case atStart => exact ⟨0, by omega, rfl, Fr.refl _ _⟩
  case round =>
    obtain ⟨k, hk, rfl, hn⟩ := hrel
    have HN := Lib.hid hn
    by_cases hlt : k < n
    · obtain ⟨x, hx⟩ : ∃ x, L[k]? = some x := ⟨L[k]'(by rw [HL.out]; exact hlt), by simp⟩
      obtain ⟨g, off, rfl, hg1, hc1⟩ := (HA.out.keep hn) k x hx
      obtain ⟨g2, off2, rfl, hg2, hc2⟩ := (HB.out.keep hn) k x hx
      have t1 : ((x : Int) != (x : Int)) = false := by simp
      have q1 : (0 : Int) ≤ (k : Int) := by omega
      have q2 : (k : Int) < (n : Int) := by omega
      clear hx hn
      go_wp2_with fail
      go_quiet (fail)
      go_wp2
      go_roundw
      case rel => exact ⟨k + 1, by omega, by go_num, HN.out.drewN _⟩
      case measure => simp [intOf]; omega
    · clear hn
      go_wp2
      go_ret
      exact ⟨rfl, HN.out⟩

end Go.Proofs.YtgjogiddpfnamaaDoor
