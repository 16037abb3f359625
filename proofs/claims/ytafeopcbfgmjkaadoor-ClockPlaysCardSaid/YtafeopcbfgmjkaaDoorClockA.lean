/- A heap: taking the first; a clock: making one, what it has. -/
import Derived.Test.YtafeopcbfgmjkaaDoorHeapE
namespace Go.Proofs.YtafeopcbfgmjkaaDoor
open Go.RowKit Go.Maps

theorem heap_slice {w : World} {hb mb : Nat} {v : Value} {S : List Th} {last : Nat} (h : HeapRep w hb mb v S last) (hS : S ≠ []) : ∃ g cap, v = .slice (some ⟨g, 0, none⟩) S.length cap ∧ g < w.heap.size ∧ ∀ t, S.head? = some t →
    w.cell? ⟨g, 0, none⟩ = some (.int .u64 t.d) ∧ w.cell? ⟨g, 1, none⟩ = some (.int .u64 t.what) ∧ w.cell? ⟨g, 2, none⟩ = some (.int .i64 t.h) := by
  obtain ⟨L, M, h1, h2, h3, h4, h5, h6, h7, h8, h9, h10, h11⟩ := h
  have hl := h6.length_eq
  have hpos : 0 < S.length := List.length_pos_iff.2 hS
  rcases h2.2 with ⟨_, h0⟩ | ⟨g, cap, cur, hv, hb0, hg, hnc, r⟩
  · omega
  · refine ⟨g, cap, by rw [hv, hl], lt_of_block hg, fun t ht => ?_⟩
    obtain ⟨x, r', e⟩ : ∃ x r', S = x :: r' := by cases S with | nil => simp at hS | cons x r' => exact ⟨x, r', rfl⟩
    have htop := top_first h5 h6 h7 h8 e
    obtain rfl : x = t := by rw [e] at ht; simpa using ht
    subst hv
    have k : ∀ i, i < 3 → w.cell? ⟨g, 0 * 3 + i, none⟩ = (thC x)[i]? := fun i hi => by
      rw [World.ownsRow.cellAt h2 _ (by omega), get_flatMap thC 3 thC_len _ _ _ hi, htop]; rfl
    exact ⟨k 0 (by omega), k 1 (by omega), k 2 (by omega)⟩

set_option maxRecDepth 100000 in
set_option maxHeartbeats 1000000 in
theorem hpop_none (hb mb : Nat) (v : Value) (S : List Th) (last now : Nat) (w : World) (h : HeapRep w hb mb v S last) (hn : ∀ t, S.head? = some t → now < t.d) :
    Calls Tryd.prog 26 #[.pointer (some ⟨hb, 0, none⟩), .int .u64 now] w fun e w' => e = .returned (.tuple #[.int .u64 0, .bool false]) ∧ New w w' := by
  obtain ⟨L, M, h1, h2, h3, h4, h5, h6, _⟩ := id h
  have l1 := lt_of_block h1
  have c0 := cell_of_block h1 0
  rw [show (#[v, .map (some mb), Value.int .i64 last] : Array Value)[0]? = some v from rfl] at c0
  by_cases hS : S = []
  · subst hS
    have hL : L = [] := List.eq_nil_of_length_eq_zero (by rw [h6.length_eq]; rfl)
    subst hL
    obtain ⟨ao, cap, rfl, _⟩ := owned_form h2
    rw [show ([] : List Th).length = 0 from rfl] at c0
    clear h h1 h2 h3 h4 h5 h6 hn
    go_enter Tryd.func26, Tryd.ntmps26
    go_wp2
    go_ret2
    exact ⟨rfl, Fr.refl _ _⟩
  · obtain ⟨t, ht⟩ : ∃ t, S.head? = some t := by cases S with | nil => simp at hS | cons x r => exact ⟨x, rfl⟩
    obtain ⟨g, cap, rfl, lg, hc⟩ := heap_slice h hS
    obtain ⟨x0, x1, x2⟩ := hc t ht
    have hlt := hn t ht
    have hpos : 0 < S.length := List.length_pos_iff.2 hS
    obtain ⟨n, hnn⟩ : ∃ n, S.length = n := ⟨_, rfl⟩
    rw [hnn] at c0 hpos
    have t0 : ((n : Int) == 0) = false := by rw [beq_eq_false_iff_ne]; omega
    have t1 : (now : Int) < (t.d : Int) := by omega
    have t2 : decide (now < t.d) = true := by simpa using hlt
    have n0 : (0 : Int) < (n : Int) := by omega
    clear h h1 h2 h3 h4 h5 h6 hn hc ht hnn
    go_enter Tryd.func26, Tryd.ntmps26
    go_wp2
    go_ret2
    exact ⟨rfl, Fr.refl _ _⟩

set_option maxRecDepth 100000 in
set_option maxHeartbeats 1000000 in
theorem hpop_ok (hb mb : Nat) (v : Value) (S : List Th) (last now : Nat) (t : Th) (r : List Th) (w : World) (h : HeapRep w hb mb v S last) (hS : S = t :: r) (hn : t.d ≤ now) (hnb : now < 18446744073709551616) :
    Calls Tryd.prog 26 #[.pointer (some ⟨hb, 0, none⟩), .int .u64 now] w fun e w' => e = .returned (.tuple #[.int .u64 t.what, .bool true]) ∧ ∃ v', HeapRep w' hb mb v' r last ∧ (∀ k, v'.ownBlock = some k → v.ownBlock = some k) ∧ Fr (hOwn hb mb v) w w' := by
  have hdrop := hdrop_ok hb mb v S last t w h (by rw [hS]; exact List.mem_cons_self ..)
  obtain ⟨L, M, h1, h2, h3, h4, h5, h6, h7, h8, _⟩ := id h
  rw [show woH S t.h = r by rw [hS]; exact woH_cons (by rw [← hS]; exact h8)] at hdrop
  have l1 := lt_of_block h1
  have c0 := cell_of_block h1 0
  rw [show (#[v, .map (some mb), Value.int .i64 last] : Array Value)[0]? = some v from rfl] at c0
  obtain ⟨g, cap, rfl, lg, hc⟩ := heap_slice h (by rw [hS]; simp)
  obtain ⟨x0, x1, x2⟩ := hc t (by rw [hS]; rfl)
  obtain ⟨n, hnn⟩ : ∃ n, S.length = n := ⟨_, rfl⟩
  have hpos : 0 < n := by rw [← hnn, hS]; simp
  rw [hnn] at c0 hdrop
  have t0 : ((n : Int) == 0) = false := by rw [beq_eq_false_iff_ne]; omega
  have t1 : ¬ (now : Int) < (t.d : Int) := by omega
  have t2 : decide (now < t.d) = false := by simpa using hn
  have n0 : (0 : Int) < (n : Int) := by omega
  have HD := Lib.hid hdrop
  have HNN := Lib.hid hnn
  clear h h1 h2 h3 h4 h5 h6 h7 h8 hc hnn hS hdrop
  go_enter Tryd.func26, Tryd.ntmps26
  go_wp2_with fail
  refine HD.out.mono ?_
  rintro e w1 ⟨rfl, v', hr, ho, hf⟩
  have HR := Lib.hid hr
  have HO := Lib.hid ho
  have HF := Lib.hid hf
  clear hr ho hf
  go_wp2
  go_ret2
  exact ⟨rfl, v', HR.out, by rw [HNN.out]; exact HO.out, by rw [HNN.out]; exact HF.out⟩

/-- Who is armed. -/
def armV (t : Th) : Value := .agg #[.int .i64 t.h, .int .u64 t.d]
def byC (S : List Th) (x : Int) : Option Value := (S.find? fun t => decide ((t.what : Int) = x)).map armV
def hasW (S : List Th) (x : Nat) : Bool := S.any fun t => t.what == x
/-- Nobody is armed twice. -/
def Hw (S : List Th) : Prop := S.Pairwise fun a b => a.what ≠ b.what
theorem keyU : Tryd.prog.underlying 25 = some (.int .u64) := Tryd.underlying25
theorem zeroA (w : World) : (zeroValue 64).run Tryd.prog w = .ok (.agg #[.int .i64 0, .int .u64 0]) w := by kernel_rfl
theorem wf_u64 {x : Nat} (h : x < 18446744073709551616) : (Lit.int .u64 (x : Int)).wf = true := by
  simp [Lit.wf, IntKind.min, IntKind.max, IntKind.signed, IntKind.bits]; omega
theorem byC_isSome (S : List Th) (x : Nat) : (byC S x).isSome = hasW S x := by
  unfold byC hasW
  rw [Option.isSome_map, List.isSome_find?]
  congr 1; funext s; rw [Bool.eq_iff_iff]; simp; omega
theorem byC_none {S : List Th} {x : Nat} (h : hasW S x = false) : byC S x = none := by
  have := byC_isSome S x
  rw [h] at this; simpa using this
theorem hasW_iff {S : List Th} {x : Nat} : hasW S x = true ↔ ∃ s ∈ S, s.what = x := by simp [hasW]
theorem hasW_false {S : List Th} {x : Nat} (h : hasW S x = false) : ∀ s ∈ S, s.what ≠ x := by
  intro s hs e
  have : hasW S x = true := hasW_iff.2 ⟨s, hs, e⟩
  rw [h] at this; cases this
theorem hw_eq {S : List Th} (h : Hw S) {a b : Th} (ha : a ∈ S) (hb : b ∈ S) (e : a.what = b.what) : a = b := by
  obtain ⟨i, hi⟩ := List.mem_iff_getElem?.1 ha
  obtain ⟨j, hj⟩ := List.mem_iff_getElem?.1 hb
  obtain ⟨hil, rfl⟩ := List.getElem?_eq_some_iff.1 hi
  obtain ⟨hjl, rfl⟩ := List.getElem?_eq_some_iff.1 hj
  rcases Nat.lt_trichotomy i j with h1 | rfl | h1
  · exact absurd e (List.pairwise_iff_getElem.1 h i j hil hjl h1)
  · rfl
  · exact absurd e.symm (List.pairwise_iff_getElem.1 h j i hjl hil h1)
theorem byC_of {S : List Th} (h : Hw S) {t : Th} (ht : t ∈ S) : byC S t.what = some (armV t) := by
  unfold byC
  cases hf : S.find? fun x => decide ((x.what : Int) = (t.what : Int)) with
  | none => have := List.find?_eq_none.1 hf t ht; simp at this
  | some x =>
    have h1 := List.mem_of_find?_eq_some hf
    have h2 := List.find?_some hf
    simp at h2
    rw [hw_eq h h1 ht (by omega)]; rfl
theorem byC_at {S : List Th} (h : Hw S) {y : Int} : byC S y = none ∨ ∃ t ∈ S, (t.what : Int) = y ∧ byC S y = some (armV t) := by
  unfold byC
  cases hf : S.find? fun x => decide ((x.what : Int) = y) with
  | none => exact .inl rfl
  | some x =>
    have h1 := List.mem_of_find?_eq_some hf
    have h2 := List.find?_some hf
    simp at h2
    exact .inr ⟨x, h1, h2, rfl⟩
theorem byC_ins {S : List Th} (h : Hw S) {t : Th} (ht : hasW S t.what = false) (y : Int) : byC (ins t S) y = if y = t.what then some (armV t) else byC S y := by
  have hw : Hw (ins t S) := (List.Perm.pairwise_iff (fun h => Ne.symm h) (ins_perm t S)).2 (List.pairwise_cons.2 ⟨fun x hx e => hasW_false ht x hx e.symm, h⟩)
  by_cases e : y = t.what
  · rw [if_pos e, e]; exact byC_of hw (ins_mem.2 (.inl rfl))
  · rw [if_neg e]
    rcases byC_at h (y := y) with h0 | ⟨x, hx, e2, h1⟩
    · rw [h0]
      rcases byC_at hw (y := y) with h2 | ⟨x, hx, e2, _⟩
      · exact h2
      · rcases ins_mem.1 hx with rfl | hx
        · exact absurd e2.symm e
        · have := byC_of h hx; rw [e2, h0] at this; cases this
    · rw [h1, ← e2]; exact byC_of hw (ins_mem.2 (.inr hx))
theorem ins_hw {S : List Th} (h : Hw S) {t : Th} (ht : hasW S t.what = false) : Hw (ins t S) :=
  (List.Perm.pairwise_iff (fun h => Ne.symm h) (ins_perm t S)).2 (List.pairwise_cons.2 ⟨fun x hx e => hasW_false ht x hx e.symm, h⟩)
theorem byC_woH {S : List Th} (h : Hw S) (hs : Hs S) {t : Th} (ht : t ∈ S) (y : Int) : byC (woH S t.h) y = if y = t.what then none else byC S y := by
  have hw : Hw (woH S t.h) := List.Pairwise.filter _ h
  have hm : ∀ x, x ∈ woH S t.h ↔ x ∈ S ∧ x.h ≠ t.h := fun x => by unfold woH; rw [List.mem_filter]; simp
  rcases byC_at hw (y := y) with h0 | ⟨x, hx, e2, h1⟩
  · rw [h0]
    by_cases e : y = t.what
    · rw [if_pos e]
    · rw [if_neg e]
      rcases byC_at h (y := y) with h2 | ⟨x, hx, e2, _⟩
      · exact h2.symm
      · have hne : x.h ≠ t.h := fun e3 => by rw [hs_eq hs hx ht e3] at e2; exact e e2.symm
        have := byC_of hw ((hm x).2 ⟨hx, hne⟩)
        rw [e2, h0] at this; cases this
  · obtain ⟨hxS, hxh⟩ := (hm x).1 hx
    have hne : ¬ y = (t.what : Int) := fun e3 => hxh (by rw [hw_eq h hxS ht (by omega)])
    rw [if_neg hne, h1, ← e2]; exact (byC_of h hxS).symm

/-- Block cb is a clock: its heap hb, who is armed in the map bm. -/
structure ClockRep (w : World) (cb hb mb bm : Nat) (v : Value) (S : List Th) (last now : Nat) : Prop where
  hd : w.heap[cb]? = some (.cells #[.int .u64 now, .pointer (some ⟨hb, 0, none⟩), .map (some bm)] 59 (0, 0))
  heap : HeapRep w hb mb v S last
  map : MapIs Tryd.prog 25 .u64 w bm S.length (byC S)
  far : bm ≠ mb
  once : Hw S
  each : ∀ t ∈ S, 1 ≤ t.what
  few : now ≤ 100000 ∧ last ≤ 10000 ∧ S.length ≤ 10000
def cOwn (cb hb mb bm : Nat) (v : Value) (k : Nat) : Prop := k = cb ∨ k = bm ∨ hOwn hb mb v k
theorem ClockRep.keep {w w' : World} {cb hb mb bm : Nat} {v : Value} {S : List Th} {last now : Nat} {T : Nat → Prop} (h : ClockRep w cb hb mb bm v S last now) (f : Fr T w w') (hs : ∀ k, cOwn cb hb mb bm v k → ¬ T k) : ClockRep w' cb hb mb bm v S last now :=
  ⟨by rw [f.block cb (lt_of_block h.hd) (hs _ (.inl rfl))]; exact h.hd, h.heap.keep f (fun k hk => hs k (.inr (.inr hk))), h.map.keep f (hs _ (.inr (.inl rfl))), h.far, h.once, h.each, h.few⟩
theorem ClockRep.new {w w' : World} {cb hb mb bm : Nat} {v : Value} {S : List Th} {last now : Nat} (h : ClockRep w cb hb mb bm v S last now) (f : New w w') : ClockRep w' cb hb mb bm v S last now := h.keep f (fun _ _ => id)
theorem ClockRep.lt {w : World} {cb hb mb bm : Nat} {v : Value} {S : List Th} {last now : Nat} (h : ClockRep w cb hb mb bm v S last now) {k : Nat} (hk : cOwn cb hb mb bm v k) : k < w.heap.size := by
  rcases hk with rfl | rfl | hk
  · exact lt_of_block h.hd
  · exact h.map.lt
  · exact h.heap.lt hk
/-- Neither the clock's block nor its map are the heap's. -/
theorem ClockRep.apart {w : World} {cb hb mb bm : Nat} {v : Value} {S : List Th} {last now : Nat} (h : ClockRep w cb hb mb bm v S last now) : (∀ k, hOwn hb mb v k → k ≠ cb ∧ k ≠ bm) ∧ bm ≠ cb := by
  obtain ⟨L, M, h1, h2, h3, _⟩ := id h.heap
  refine ⟨fun k hk => ?_, h.map.apart h.hd⟩
  rcases hk with rfl | rfl | hk
  · refine ⟨fun e => ?_, fun e => h.map.apart h1 e.symm⟩
    subst e
    have := h.hd
    rw [h1, Option.some.injEq, Obj.cells.injEq] at this
    exact absurd this.2.1 (by decide)
  · exact ⟨h3.apart h.hd, fun e => h.far e.symm⟩
  · exact ⟨own_apart h2 h.hd (by decide) k hk, own_apart_map h2 h.map k hk⟩

set_option maxRecDepth 100000 in
set_option maxHeartbeats 1000000 in
theorem cnew_any (w : World) : Calls Tryd.prog 5 #[] w fun e w' => ∃ cb hb mb bm, e = .returned (.pointer (some ⟨cb, 0, none⟩)) ∧ (∀ k, cOwn cb hb mb bm (.slice none 0 0) k → w.heap.size ≤ k) ∧ ClockRep w' cb hb mb bm (.slice none 0 0) [] 0 0 ∧ New w w' := by
  have hmm := @run_makeMap Tryd.prog
  go_enter Tryd.func5, Tryd.ntmps5
  go_wp2_with fail
  refine (hnew_any _).mono ?_
  rintro e w1 ⟨hb, mb, rfl, h1, h2, hr, hn⟩
  have HR := Lib.hid hr
  have HN := Lib.hid hn
  clear hr hn
  go_wp2
  go_ret
  have hs := HN.out.size
  have l1 := HR.out.lt (.inl rfl)
  have l2 := HR.out.lt (.inr (.inl rfl))
  refine ⟨_, hb, mb, w1.heap.size, rfl, ?_, ⟨?_, HR.out.new (((Fr.refl _ _).alloc _).alloc _), (MapIs.made Tryd.prog 25 .u64 w1).keep ((Fr.refl (fun _ => False) _).alloc _) id, by omega, List.Pairwise.nil, fun t h => by simp at h, by simp⟩, (HN.out.alloc _).alloc _⟩
  · rintro k (rfl | rfl | rfl | rfl | hk)
    · omega
    · omega
    · omega
    · omega
    · cases hk
  · exact block_alloc_new1 _ _ _

set_option maxRecDepth 100000 in
set_option maxHeartbeats 400000 in
theorem now_any (cb hb mb bm : Nat) (v : Value) (S : List Th) (last now : Nat) (w : World) (h : ClockRep w cb hb mb bm v S last now) :
    Calls Tryd.prog 20 #[.pointer (some ⟨cb, 0, none⟩)] w fun e w' => e = .returned (.int .u64 now) ∧ w = w' := by
  have c0 := cell_of_block h.hd 0
  have l1 := lt_of_block h.hd
  clear h
  go_enter Tryd.func20, Tryd.ntmps20
  go_wp2
  go_ret
  exact ⟨rfl, rfl⟩
set_option maxRecDepth 100000 in
set_option maxHeartbeats 400000 in
theorem armed_any (cb hb mb bm : Nat) (v : Value) (S : List Th) (last now : Nat) (w : World) (h : ClockRep w cb hb mb bm v S last now) :
    Calls Tryd.prog 12 #[.pointer (some ⟨cb, 0, none⟩)] w fun e w' => e = .returned (.int .i64 S.length) ∧ w = w' := by
  have c2 := cell_of_block h.hd 2
  have l1 := lt_of_block h.hd
  have hlen := h.map.len Tryd.underlying57
  obtain ⟨n, hn⟩ : ∃ n, S.length = n := ⟨_, rfl⟩
  rw [hn] at hlen ⊢
  clear h hn
  go_enter Tryd.func12, Tryd.ntmps12
  go_wp2
  go_ret
  exact ⟨rfl, rfl⟩

end Go.Proofs.YtafeopcbfgmjkaaDoor
