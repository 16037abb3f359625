/- The document's clock: finding, putting in. -/
import Derived.Test.YtafeopcbfgmjkaaDoorClockE
import Derived.Test.YtafeopcbfgmjkaaDoorDocs
import Derived.Laws.ResultCell
import Derived.Laws.Rows
import Derived.Deep.Onto
namespace Go.Proofs.YtafeopcbfgmjkaaDoor
open Go.RowKit

theorem rthInfo : (Tryd.prog.info? 76).map (fun i => (i.zero, i.size, i.bytes)) = some (some (.agg #[.int .u64 0, .int .u64 0, .int .i64 0]), 3, 24) := by kernel_rfl
/-- Block rb is the document's clock. -/
structure DocRep (w : World) (rb : Nat) (v : Value) (S : List Th) (last now : Nat) : Prop where
  hd : w.heap[rb]? = some (.cells #[.int .u64 now, v, .int .i64 last] 46 (0, 0))
  own : w.ownsRow 0 76 3 v S.length (S.flatMap thC)
  few : now ≤ 100000 ∧ last ≤ 10000 ∧ S.length ≤ 10000
def dOwn (rb : Nat) (v : Value) (k : Nat) : Prop := k = rb ∨ v.ownBlock = some k
theorem DocRep.keep {w w' : World} {rb : Nat} {v : Value} {S : List Th} {last now : Nat} {T : Nat → Prop} (h : DocRep w rb v S last now) (f : Fr T w w') (hs : ∀ k, dOwn rb v k → ¬ T k) : DocRep w' rb v S last now :=
  ⟨by rw [f.block rb (lt_of_block h.hd) (hs _ (.inl rfl))]; exact h.hd, own_kept h.own f (fun k hk => hs _ (.inr hk)), h.few⟩
theorem DocRep.new {w w' : World} {rb : Nat} {v : Value} {S : List Th} {last now : Nat} (h : DocRep w rb v S last now) (f : New w w') : DocRep w' rb v S last now := h.keep f (fun _ _ => id)
theorem DocRep.lt {w : World} {rb : Nat} {v : Value} {S : List Th} {last now : Nat} (h : DocRep w rb v S last now) {k : Nat} (hk : dOwn rb v k) : k < w.heap.size := by
  rcases hk with rfl | hk
  · exact lt_of_block h.hd
  · exact (h.own.lt k hk).2
theorem own_ne {w : World} {base b size n : Nat} {e T : TypeId} {v : Value} {xs : List Value} {cs : Array Value} {z : Nat × Nat} (h : w.ownsRow base e size v n xs) (hb : w.heap[b]? = some (.cells cs T z)) (hT : T ≠ e) : ∀ k, v.ownBlock = some k → k ≠ b := by
  rintro k hk rfl
  rcases h.2 with ⟨rfl, _⟩ | ⟨g, cap, cur, rfl, _, hg, _⟩
  · cases hk
  · obtain rfl : g = k := by simpa [Value.ownBlock] using hk
    rw [hb, Option.some.injEq, Obj.cells.injEq] at hg
    exact absurd hg.2.1 hT
/-- A thing at place q. -/
theorem doc_at {w : World} {base n c : Nat} {e : TypeId} {A : Option Addr} {S : List Th} (h : w.ownsRow base e 3 (.slice A n c) n (S.flatMap thC)) {q : Nat} {t : Th} (ht : S[q]? = some t) :
    ∃ g, A = some ⟨g, 0, none⟩ ∧ g < w.heap.size ∧ w.cell? ⟨g, q * 3, none⟩ = some (.int .u64 t.d) ∧ w.cell? ⟨g, q * 3 + 1, none⟩ = some (.int .u64 t.what) ∧ w.cell? ⟨g, q * 3 + 2, none⟩ = some (.int .i64 t.h) := by
  obtain ⟨ao, cap, hv, hc⟩ := owned_form h
  obtain ⟨rfl, rfl⟩ : A = ao ∧ c = cap := by simpa using hv
  have k : ∀ i u, i < 3 → (thC t)[i]? = some u → (S.flatMap thC)[q * 3 + i]? = some u := fun i u hi hu => by
    rw [get_flatMap thC 3 thC_len _ _ _ hi, ht]; exact hu
  obtain ⟨g, rfl, _, hg, h0⟩ := hc _ _ (k 0 _ (by omega) rfl)
  obtain ⟨g1, e1, _, _, h1⟩ := hc _ _ (k 1 _ (by omega) rfl)
  obtain ⟨g2, e2, _, _, h2⟩ := hc _ _ (k 2 _ (by omega) rfl)
  obtain rfl : g = g1 := by simpa using e1
  obtain rfl : g = g2 := by simpa using e2
  exact ⟨g, rfl, hg, h0, h1, h2⟩
theorem doc_cap {w : World} {base n c size : Nat} {e : TypeId} {A : Option Addr} {cs : List Value} (h : w.ownsRow base e size (.slice A n c) n cs) : n ≤ c := by
  rcases h.2 with ⟨h1, h2⟩ | ⟨g, cap, cur, hv, _, _, hc, _⟩
  · omega
  · obtain ⟨_, rfl⟩ : A = some ⟨g, 0, none⟩ ∧ c = cap := by simpa using hv
    exact hc

theorem rth_size : (Tryd.prog.info? 76).map (·.size) = some 3 := by kernel_rfl
/-- A struct's result in a block of its own, then another. -/
theorem ret_cell2 {P : Program} {fn : Func} {p u : Tmp} {ty : TypeId} (h : fn.results = #[.cell p ty, .tmp u]) (tmps : Array Value) (w : World) (g : Nat) (t : TypeId) (cs : Array Value) (fr : Nat × Nat) (d : TypeDesc)
    (hp : tmps.getD p undef = .pointer (some ⟨g, 0, none⟩)) (hg : w.heap[g]? = some (.cells cs t fr))
    (hu : P.underlying ty = some d) (hd : (match d with | .struct _ | .array _ _ => true | _ => false) = true) (hi : (P.info? ty).map (·.size) = some cs.size) :
    (results fn tmps).run P w = .ok (.tuple #[.agg cs, tmps.getD u undef]) w := by
  rw [results_cell_tmp h, hp]
  simp [asAddr, Result.andThen, run_loadVar_row w g t ty cs fr d hg hu hd hi]
/-- The first of an id. -/
def findW (S : List Th) (u : Nat) : Option Th := S.find? fun t => t.what == u
def thAgg (o : Option Th) : Value := match o with | some t => .agg #[.int .u64 t.d, .int .u64 t.what, .int .i64 t.h] | none => .agg #[.int .u64 0, .int .u64 0, .int .i64 0]
theorem find_first {S : List Th} {u q : Nat} {t : Th} (hq : S[q]? = some t) (hu : t.what = u) (hno : ∀ j y, j < q → S[j]? = some y → y.what ≠ u) : findW S u = some t := by
  induction S generalizing q with
  | nil => simp at hq
  | cons x r ih =>
    unfold findW
    cases q with
    | zero =>
      obtain rfl : x = t := by simpa using hq
      rw [List.find?_cons_of_pos (by simpa using hu)]
    | succ q =>
      rw [List.find?_cons_of_neg (by simpa using hno 0 x (by omega) rfl)]
      exact ih (by simpa using hq) (fun j y hj hy => hno (j + 1) y (by omega) (by simpa using hy))
theorem find_never {S : List Th} {u : Nat} (hno : ∀ (j : Nat) (y : Th), S[j]? = some y → y.what ≠ u) : findW S u = none := by
  unfold findW
  rw [List.find?_eq_none]
  intro x hx
  obtain ⟨j, hj⟩ := List.mem_iff_getElem?.1 hx
  simpa using hno j x hj

set_option maxRecDepth 100000 in
set_option maxHeartbeats 2000000 in
theorem rfind_any (rb : Nat) (v : Value) (S : List Th) (last now u : Nat) (w : World) (h : DocRep w rb v S last now) :
    Calls Tryd.prog 27 #[.pointer (some ⟨rb, 0, none⟩), .int .u64 u] w fun e w' => e = .returned (.tuple #[thAgg (findW S u), .bool (findW S u).isSome]) ∧ New w w' := by
  obtain ⟨h1, h2, h3⟩ := id h
  obtain ⟨ao, cap, rfl, _⟩ := owned_form h2
  have hcap := doc_cap h2
  have c1 := cell_of_block h1 1
  have l1 := lt_of_block h1
  rw [show (#[Value.int .u64 now, .slice ao S.length cap, .int .i64 last] : Array Value)[1]? = some (.slice ao S.length cap) from rfl] at c1
  obtain ⟨n, hn⟩ : ∃ n, S.length = n := ⟨_, rfl⟩
  rw [hn] at c1 h3 hcap
  have HN := Lib.hid hn
  have HO := Lib.hid h2
  clear h h1 h2 hn
  go_enter Tryd.func27, Tryd.ntmps27
  go_wp2_with fail
  go_loop [6] (fun i => ∃ q : Nat, q ≤ n ∧ i = .int .i64 q ∧ ∀ (j : Nat) (y : Th), j < q → S[j]? = some y → y.what ≠ u) (fun i => n - (intOf i).toNat)
  case atStart => exact ⟨0, by omega, rfl, fun j y hj => by omega⟩
  case round =>
    obtain ⟨q, hq, rfl, hno⟩ := hrel
    have HNO := Lib.hid hno
    clear hno
    by_cases hlt : q < n
    · obtain ⟨t, ht⟩ : ∃ t, S[q]? = some t := ⟨S[q]'(by rw [HN.out]; exact hlt), by simp⟩
      obtain ⟨g, rfl, hg, x0, x1, x2⟩ := doc_at HO.out ht
      have HT := Lib.hid ht
      clear ht
      by_cases hu : t.what = u
      · have t1 : ((t.what : Int) == (u : Int)) = true := by rw [hu]; simp
        have HF := Lib.hid (find_first HT.out hu HNO.out)
        clear hu
        go_wp2
        rw [HF.out]
        refine bodyPost_ret (ret_cell2 rfl _ _ w.heap.size _ _ _ _ rfl (block_alloc_new _ _) Tryd.underlying76 rfl rth_size) rfl ?_
        exact ⟨rfl, (Fr.refl _ _).alloc _⟩
      · have t1 : ((t.what : Int) == (u : Int)) = false := by rw [beq_eq_false_iff_ne]; omega
        go_wp2_with fail
        go_round
        case rel => exact ⟨q + 1, by omega, by go_num, fun j y hj hy => by
          by_cases e : j = q
          · subst e; rw [HT.out] at hy; rw [← Option.some.inj hy]; exact hu
          · exact HNO.out j y (by omega) hy⟩
        case measure => simp [intOf]; omega
    · have HF := Lib.hid (find_never (S := S) (u := u) (fun j y hy => HNO.out j y (by have := (List.getElem?_eq_some_iff.1 hy).1; have := HN.out; omega) hy))
      go_wp2
      rw [HF.out]
      refine bodyPost_ret (ret_cell2 rfl _ _ w.heap.size _ _ _ _ rfl (block_alloc_new _ _) Tryd.underlying76 rfl rth_size) rfl ?_
      exact ⟨rfl, (Fr.refl _ _).alloc _⟩

set_option maxRecDepth 100000 in
set_option maxHeartbeats 2000000 in
theorem hrpop_none (rb : Nat) (v : Value) (S : List Th) (last now m : Nat) (w : World) (h : DocRep w rb v S last now) (hn : ∀ t, S.head? = some t → m < t.d) :
    Calls Tryd.prog 29 #[.pointer (some ⟨rb, 1, none⟩), .int .u64 m] w fun e w' => e = .returned (.tuple #[.int .u64 0, .bool false]) ∧ New w w' := by
  obtain ⟨h1, h2, h3⟩ := id h
  obtain ⟨ao, cap, rfl, _⟩ := owned_form h2
  have hcap := doc_cap h2
  have c1 := cell_of_block h1 1
  have l1 := lt_of_block h1
  rw [show (#[Value.int .u64 now, .slice ao S.length cap, .int .i64 last] : Array Value)[1]? = some (.slice ao S.length cap) from rfl] at c1
  cases S with
  | nil =>
    rw [show ([] : List Th).length = 0 from rfl] at *
    clear h h1 h2 h3 hn
    go_enter Tryd.func29, Tryd.ntmps29
    go_wp2
    go_ret2
    exact ⟨rfl, Fr.refl _ _⟩
  | cons t r =>
    have hlt := hn t rfl
    obtain ⟨g, rfl, hg, x0, x1, x2⟩ := doc_at (q := 0) (t := t) h2 rfl
    obtain ⟨n, hn⟩ : ∃ n, r.length = n := ⟨_, rfl⟩
    rw [List.length_cons, hn] at c1 hcap
    rw [show 0 * 3 = 0 from rfl] at x0
    have t0 : (((n + 1 : Nat) : Int) == 0) = false := by rw [beq_eq_false_iff_ne]; omega
    have t1 : (m : Int) < (t.d : Int) := by omega
    have t2 : decide (m < t.d) = true := by simpa using hlt
    have n0 : (0 : Int) < ((n + 1 : Nat) : Int) := by omega
    clear h h1 h2 h3 hn x1 x2
    go_enter Tryd.func29, Tryd.ntmps29
    go_wp2
    go_ret2
    exact ⟨rfl, Fr.refl _ _⟩

theorem thC_one (L : List Th) : ∀ u ∈ L.flatMap thC, u.oneCell' = true := by
  intro u hu
  obtain ⟨t, _, hu⟩ := List.mem_flatMap.1 hu
  simp only [thC, List.mem_cons, List.not_mem_nil, or_false] at hu
  rcases hu with rfl | rfl | rfl <;> rfl
theorem flat_drop (L : List Th) (k : Nat) : (L.flatMap thC).drop (k * 3) = (L.drop k).flatMap thC := by
  induction L generalizing k with
  | nil => simp
  | cons x r ih =>
    cases k with
    | zero => simp
    | succ k =>
      rw [List.flatMap_cons, List.drop_succ_cons, ← ih k, show (k + 1) * 3 = (thC x).length + k * 3 by rw [thC_len]; omega, List.drop_append]
      simp
theorem flat_take (L : List Th) (k : Nat) : (L.flatMap thC).take (k * 3) = (L.take k).flatMap thC := by
  induction L generalizing k with
  | nil => simp
  | cons x r ih =>
    cases k with
    | zero => simp
    | succ k =>
      rw [List.flatMap_cons, List.take_succ_cons, List.flatMap_cons, ← ih k, show (k + 1) * 3 = (thC x).length + k * 3 by rw [thC_len]; omega, List.take_append]
      simp
      exact List.take_of_length_le (by omega)
theorem doc_end {w w2 : World} {rb now last last' : Nat} {v v0 v2 : Value} {S S' : List Th} (h : DocRep w rb v S last now) (f : Fr (· = rb) w w2) (hb : w2.heap[rb]? = some (.cells #[.int .u64 now, v0, .int .i64 last'] 46 (0, 0)))
    {n : Nat} (hown : w2.ownsRow w.heap.size 76 3 v2 n (S'.flatMap thC)) (hn : S'.length = n) (hl : last' ≤ 10000) (hs : S'.length ≤ 10000) :
    DocRep (w2.setCell ⟨rb, 1, none⟩ v2) rb v2 S' last' now ∧ (∀ k, v2.ownBlock = some k → w.heap.size ≤ k) ∧ Fr (· = rb) w (w2.setCell ⟨rb, 1, none⟩ v2) := by
  subst hn
  have f3 : Fr (· = rb) w2 (w2.setCell ⟨rb, 1, none⟩ v2) := (Fr.refl (· = rb) w2).setCell (fun _ => rfl) _
  refine ⟨⟨block_setCell hb _, own_kept (hown.mono (Nat.zero_le _)) f3 (own_ne hown hb (by decide)), h.few.1, hl, hs⟩, fun k hk => (hown.lt k hk).1, f.trans f3⟩

set_option maxRecDepth 100000 in
set_option maxHeartbeats 2000000 in
theorem hrpop_ok (rb : Nat) (v : Value) (t : Th) (r : List Th) (last now m : Nat) (w : World) (h : DocRep w rb v (t :: r) last now) (hm : t.d ≤ m) :
    Calls Tryd.prog 29 #[.pointer (some ⟨rb, 1, none⟩), .int .u64 m] w fun e w' => e = .returned (.tuple #[.int .u64 t.what, .bool true]) ∧ ∃ v', DocRep w' rb v' r last now ∧ (∀ k, v'.ownBlock = some k → w.heap.size ≤ k) ∧ Fr (· = rb) w w' := by
  obtain ⟨h1, h2, h3⟩ := id h
  obtain ⟨ao, cap, rfl, _⟩ := owned_form h2
  have hcap := doc_cap h2
  have c1 := cell_of_block h1 1
  have l1 := lt_of_block h1
  have z1 := free_of_block h1 1
  rw [show (#[Value.int .u64 now, .slice ao (t :: r).length cap, .int .i64 last] : Array Value)[1]? = some (.slice ao (t :: r).length cap) from rfl] at c1
  obtain ⟨g, rfl, hg, x0, x1, x2⟩ := doc_at (q := 0) (t := t) h2 rfl
  obtain ⟨n, hn⟩ : ∃ n, r.length = n := ⟨_, rfl⟩
  obtain ⟨i0, hi, hz0, hz1, hz2⟩ := info_parts rthInfo
  have hsrc := ((Src.of_own h2).drop (k := 1) (size := 3) h2.1 (by simp) hcap)
  rw [show (List.flatMap thC (t :: r)).drop (1 * 3) = r.flatMap thC by rw [flat_drop]; rfl] at hsrc
  rw [List.length_cons, hn] at c1 hcap hsrc h3
  rw [show 0 * 3 = 0 from rfl] at x0
  rw [show 0 * 3 + 1 = 1 from rfl] at x1
  have t0 : (((n + 1 : Nat) : Int) == 0) = false := by rw [beq_eq_false_iff_ne]; omega
  have t1 : ¬ (m : Int) < (t.d : Int) := by omega
  have t2 : decide (m < t.d) = false := by simpa using hm
  have n0 : (0 : Int) < ((n + 1 : Nat) : Int) := by omega
  have H := Lib.hid h
  have HN := Lib.hid hn
  have H1 := Lib.hid h1
  have hown := World.ownsRow_lit (base := w.heap.size) (e := 76) (size := 3) w #[] 0 (Nat.le_refl _) (Nat.zero_le _) rfl
  have HLE := Lib.hid (show (r.flatMap thC).length = n * 3 by rw [len_flatMap thC 3 thC_len, hn])
  clear h h1 h2 hn x2
  by_cases hc : cap = 1
  · have HS := Lib.hid (show Src w (some ⟨g, 0, none⟩) 0 0 (r.flatMap thC) from hsrc.cast (by simp [hc, Addr.add]) (by omega) (by omega) rfl)
    clear hsrc
    obtain rfl : n = 0 := by omega
    subst hc
    go_enter Tryd.func29, Tryd.ntmps29
    go_wp2_with (at_builtin; refine wpList_append_src rfl (.tmp 32) (.tmp 37) 42 rfl w.heap.size 76 i0 _ 3 24 Tryd.underlying42 hi hz0 hz1 hz2 rfl (by decide) _ _ _ rfl hown (some ⟨g, 0, none⟩) 0 0 (r.flatMap thC) rfl HLE.out (HS.out.keep ((Fr.refl (fun _ => False) _).alloc _) (fun _ _ => id)) (thC_one _) (by unfold maxLen; omega) (by omega) (by simp) ?_; intro v1 w1 hown1 hgrow1; rw [List.nil_append, Nat.zero_add] at hown1; have f1 : Fr (fun k => w.heap.size ≤ k) w w1 := ((Fr.refl _ w).alloc _).grown hgrow1 (fun k hk _ => by cases hk; exact Nat.le_refl _); have b1 := (f1.block rb l1 (by omega)).trans H1.out; have l2 := lt_of_block b1; have d1 : w1.cell? ⟨rb, 1, none⟩ = some _ := cell_of_block b1 1; have y1 := free_of_block b1 1; obtain ⟨ao1, cap1, rfl, _⟩ := owned_form hown1; have HO1 := Lib.hid hown1; have F1 := Lib.hid f1; have B1 := Lib.hid b1; clear hgrow1 hown1 f1 b1 hown)
    go_ret2
    have hend := doc_end H.out (F1.out.mono (fun k hk e => absurd e (by omega))) B1.out HO1.out HN.out h3.2.1 (by rw [HN.out]; omega)
    exact ⟨rfl, _, hend⟩
  · have HS := Lib.hid (show Src w (some ⟨g, 3, none⟩) n (cap - 1) (r.flatMap thC) from hsrc.cast (by simp [hc, Addr.add]) (by omega) (by omega) rfl)
    clear hsrc
    have hc1 : (1 : Int) < (cap : Int) := by omega
    go_enter Tryd.func29, Tryd.ntmps29
    go_wp2_with (at_builtin; refine wpList_append_src rfl (.tmp 32) (.tmp 37) 42 rfl w.heap.size 76 i0 _ 3 24 Tryd.underlying42 hi hz0 hz1 hz2 rfl (by decide) _ _ _ rfl hown (some ⟨g, 3, none⟩) n (cap - 1) (r.flatMap thC) rfl HLE.out (HS.out.keep ((Fr.refl (fun _ => False) _).alloc _) (fun _ _ => id)) (thC_one _) (by unfold maxLen; omega) (by omega) (by simp) ?_; intro v1 w1 hown1 hgrow1; rw [List.nil_append, Nat.zero_add] at hown1; have f1 : Fr (fun k => w.heap.size ≤ k) w w1 := ((Fr.refl _ w).alloc _).grown hgrow1 (fun k hk _ => by cases hk; exact Nat.le_refl _); have b1 := (f1.block rb l1 (by omega)).trans H1.out; have l2 := lt_of_block b1; have d1 : w1.cell? ⟨rb, 1, none⟩ = some _ := cell_of_block b1 1; have y1 := free_of_block b1 1; obtain ⟨ao1, cap1, rfl, _⟩ := owned_form hown1; have HO1 := Lib.hid hown1; have F1 := Lib.hid f1; have B1 := Lib.hid b1; clear hgrow1 hown1 f1 b1 hown)
    go_ret2
    have hend := doc_end H.out (F1.out.mono (fun k hk e => absurd e (by omega))) B1.out HO1.out HN.out h3.2.1 (by rw [HN.out]; omega)
    exact ⟨rfl, _, hend⟩

end Go.Proofs.YtafeopcbfgmjkaaDoor
