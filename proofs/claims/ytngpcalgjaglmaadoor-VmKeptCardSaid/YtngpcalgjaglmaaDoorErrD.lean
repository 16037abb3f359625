/- The statements' own comparison of an error with two places with what the document says. -/
import Derived.Test.YtngpcalgjaglmaaDoorErrC
import Derived.Test.YtngpcalgjaglmaaDoorLib
import Derived.LaidEql
import Derived.Stop.Asserts
import Derived.RowKitTokens
import Derived.Lib.Hide
import Derived.BigQuiet
import Derived.Deep.QuietTactic
import Derived.Test.YtngpcalgjaglmaaDoorReg
import Derived.Laws.AppendOwn
namespace Go.Proofs.YtngpcalgjaglmaaDoor
open Go.RowKit Go.Extern.Stop Go.Stop Go.Extern

set_option maxRecDepth 100000 in
set_option maxHeartbeats 1000000 in
theorem is_2 (v : Value) (l l2 : ByteArray) (n n2 k k' : Int) (w : World) (hv : ErrIs w v [(l, n), (l2, n2)] k) :
    Calls Tryd.prog 57 #[v, .iface 55 (.int .i64 k')] w fun e w' => e = .returned (.bool (k == k')) ∧ w = w' := by
  obtain ⟨b, inner, rfl, hb, b2, inner2, rfl, hb2, rfl⟩ := hv
  have hc : w.cell? ⟨b, 2, none⟩ = some (.iface 88 (.pointer (some ⟨b2, 0, none⟩))) := cell_of_block hb 2
  have hc' : w.cell? ⟨b2, 2, none⟩ = some (.iface 55 (.int .i64 k)) := cell_of_block hb2 2
  clear hb hb2
  obtain ⟨i, hi, hcmp⟩ := Option.map_eq_some_iff.1 errComp
  have h8 := @run_callFunc_extern Tryd.prog 66 _ Extern.ReflectliteType.typeOf Tryd.func66 (by kernel_rfl) (by kernel_rfl) (by kernel_rfl) (by kernel_rfl)
  have h32 := @run_callFunc_extern Tryd.prog 102 _ (Extern.ReflectliteType.method fun t => do Extern.Rtype.noPackHeld "Comparable" t; pure (.bool (← typeInfo t).comparable)) Tryd.func102 (by kernel_rfl) (by kernel_rfl) (by kernel_rfl) (by kernel_rfl)
  have tT := isTypeOf
  have cT := isComparable
  have mR := isMethodComparable
  have nE := noIsE
  have uE := noUnwrapE
  have vE := noUnwrapsE
  have nA := noIsA
  have uA := hasUnwrapA
  have mU := methodUnwrap
  have heq := run_eql_iface_int (P := Tryd.prog) w k k' Tryd.underlying37 Tryd.underlying55 hi hcmp
  have hty := run_eql_iface_types (P := Tryd.prog) 88 55 (.pointer (some ⟨b, 0, none⟩)) (.int .i64 k') Tryd.underlying37 (by decide) w
  have hty2 := run_eql_iface_types (P := Tryd.prog) 88 55 (.pointer (some ⟨b2, 0, none⟩)) (.int .i64 k') Tryd.underlying37 (by decide) w
  by_cases hk : (k == k') = true
  · rw [hk] at heq ⊢
    clear hk
    go_enter Tryd.func57, Tryd.ntmps57
    go_wp2
    refine wp_loop_rounds 3 ?_
    rw [rounds_succ]
    go_wp2
    rw [rounds_succ]
    go_wp2
    rw [rounds_succ]
    go_wp2
    go_ret
    exact ⟨rfl, rfl⟩
  · rw [Bool.not_eq_true] at hk
    rw [hk] at heq ⊢
    clear hk
    go_enter Tryd.func57, Tryd.ntmps57
    go_wp2
    refine wp_loop_rounds 3 ?_
    rw [rounds_succ]
    go_wp2
    rw [rounds_succ]
    go_wp2
    rw [rounds_succ]
    go_wp2
    go_ret
    exact ⟨rfl, rfl⟩

set_option maxHeartbeats 1000000 in
theorem kind_2 (v : Value) (l l2 : ByteArray) (n n2 k : Int) (w : World) (hv : ErrIs w v [(l, n), (l2, n2)] k) (h1 : 1 ≤ k) (h2 : k ≤ 10) :
    Calls Tryd.prog 38 #[v] w fun e w' => e = .returned (.int .i64 k) ∧ w' = w := by
  have HV := Lib.hid hv
  clear hv
  go_enter Tryd.func38, Tryd.ntmps38
  go_wp2_with fail
  go_loop [3, 4] (fun f i => ∃ q : Nat, q ≤ 10 ∧ i = .int .i64 (q + 1) ∧ f = .int .i64 (if k ≤ q then k else 0)) (fun _ i => (11 - intOf i).toNat)
  case atStart => exact ⟨0, by omega, rfl, by rw [if_neg (by omega)]⟩
  case round =>
    obtain ⟨q, hq, rfl, rfl⟩ := hrel
    by_cases hlt : q < 10
    · by_cases he : k = q + 1
      · have HE := Lib.hid he
        have hb : (k == ((q : Int) + 1)) = true := by simp [he]
        have h0 : ¬ k ≤ q := by omega
        clear he
        go_wp2_with (go_at_call 57; refine (is_2 v l l2 n n2 k _ _ HV.out).mono ?_; rintro e w' ⟨rfl, rfl⟩)
        go_round
        case rel => exact ⟨q + 1, by omega, by go_num, by rw [if_pos (by have := HE.out; omega), HE.out]⟩
        case measure => simp [intOf]; omega
      · have hb : (k == ((q : Int) + 1)) = false := by simpa using he
        have hb' : (k == ((q : Int) + 1)) = false := hb
        by_cases hk : k ≤ q
        · go_wp2_with (go_at_call 57; refine (is_2 v l l2 n n2 k _ _ HV.out).mono ?_; rintro e w' ⟨rfl, rfl⟩)
          go_round
          case rel => exact ⟨q + 1, by omega, by go_num, by rw [if_pos (show k ≤ ((q + 1 : Nat) : Int) by omega)]⟩
          case measure => simp [intOf]; omega
        · go_wp2_with (go_at_call 57; refine (is_2 v l l2 n n2 k _ _ HV.out).mono ?_; rintro e w' ⟨rfl, rfl⟩)
          go_round
          case rel => exact ⟨q + 1, by omega, by go_num, by rw [if_neg (show ¬ k ≤ ((q + 1 : Nat) : Int) from (fun hc => he (by omega))), if_neg (show ¬ k ≤ (q : Int) by omega)]⟩
          case measure => simp [intOf]; omega
    · have hk : k ≤ q := by omega
      go_wp2
      go_ret
      exact ⟨rfl, rfl⟩


/-- What the document says: the error with these places, the outermost first. -/
def FailN (w : World) (f : Value) (ps : List (ByteArray × Int)) (k : Int) : Prop :=
  ∃ b lb pb lc pc, f = .pointer (some ⟨b, 0, none⟩) ∧ w.heap[b]? = some (.cells #[.slice (some ⟨lb, 0, none⟩) ps.length lc, .slice (some ⟨pb, 0, none⟩) ps.length pc, .int .i64 k] 87 (0, 0)) ∧
    lb < w.heap.size ∧ pb < w.heap.size ∧ ∀ (j : Nat) p, ps[j]? = some p → w.cell? ⟨lb, j, none⟩ = some (.string p.1) ∧ w.cell? ⟨pb, j, none⟩ = some (.int .i64 p.2)
theorem FailN.new {w w' : World} (f : New w w') {v : Value} {ps : List (ByteArray × Int)} {k : Int} (h : FailN w v ps k) : FailN w' v ps k := by
  obtain ⟨b, lb, pb, lc, pc, hv, h1, h2, h3, h6⟩ := h
  exact ⟨b, lb, pb, lc, pc, hv, by rw [f.block b (lt_of_block h1) id]; exact h1, Nat.lt_of_lt_of_le h2 f.size, Nat.lt_of_lt_of_le h3 f.size, fun j p hp => ⟨(f.cell h2 id _).trans (h6 j p hp).1, (f.cell h3 id _).trans (h6 j p hp).2⟩⟩
theorem failN_of {w : World} {f : Value} {l : ByteArray} {n k : Int} (h : FailIs w f l n k) : FailN w f [(l, n)] k := by
  obtain ⟨b, lb, pb, lc, pc, hv, h1, h2, h3⟩ := h
  refine ⟨b, lb, pb, lc, pc, hv, h1, lt_of_block h2, lt_of_block h3, fun j p hp => ?_⟩
  match j, hp with
  | 0, hp => obtain rfl : (l, n) = p := by simpa using hp
             exact ⟨cell_of_block h2 0, cell_of_block h3 0⟩
  | j + 1, hp => simp at hp

theorem errIs_form {w : World} {v : Value} {ps : List (ByteArray × Int)} {k : Int} (h : ErrIs w v ps k) : (∃ k', v = .iface 55 (.int .i64 k')) ∨ ∃ eb, v = .iface 88 (.pointer (some ⟨eb, 0, none⟩)) := by
  cases ps with
  | nil => exact .inl ⟨k, h⟩
  | cons p r => obtain ⟨l, n⟩ := p; obtain ⟨b, _, hv, _⟩ := h; exact .inr ⟨b, hv⟩
theorem same_factsN {w0 w1 : World} {o : Obj} {b lb pb eb lc pc L j : Nat} {l : ByteArray} {n k : Int} {inner : Value} (f : Fr (· = w0.heap.size) (w0.alloc o).drew w1)
    (hb : w0.heap[b]? = some (.cells #[.slice (some ⟨lb, 0, none⟩) L lc, .slice (some ⟨pb, 0, none⟩) L pc, .int .i64 k] 87 (0, 0)))
    (hlb : lb < w0.heap.size) (hpb : pb < w0.heap.size) (hl : w0.cell? ⟨lb, j, none⟩ = some (.string l)) (hp : w0.cell? ⟨pb, j, none⟩ = some (.int .i64 n))
    (heb : w0.heap[eb]? = some (.cells #[.string l, .int .i64 n, inner] 92 (0, 0))) :
    w1.cell? ⟨b, 0, none⟩ = some (.slice (some ⟨lb, 0, none⟩) L lc) ∧ w1.cell? ⟨b, 1, none⟩ = some (.slice (some ⟨pb, 0, none⟩) L pc) ∧ w1.cell? ⟨lb, j, none⟩ = some (.string l) ∧ w1.cell? ⟨pb, j, none⟩ = some (.int .i64 n) ∧
      w1.cell? ⟨eb, 0, none⟩ = some (.string l) ∧ w1.cell? ⟨eb, 1, none⟩ = some (.int .i64 n) ∧ w1.cell? ⟨eb, 2, none⟩ = some inner ∧ New w0 w1 := by
  have hn : New w0 w1 := ((Fr.refl (fun _ => False) _).alloc o).drew.then f (fun i hi e => by omega)
  have g : ∀ {i : Nat} {c : Array Value} {T : TypeId}, w0.heap[i]? = some (.cells c T (0, 0)) → w1.heap[i]? = some (.cells c T (0, 0)) := fun {i c T} h => by
    rw [hn.block i (lt_of_block h) id]; exact h
  exact ⟨cell_of_block (g hb) 0, cell_of_block (g hb) 1, (hn.cell hlb id _).trans hl, (hn.cell hpb id _).trans hp, cell_of_block (g heb) 0, cell_of_block (g heb) 1, cell_of_block (g heb) 2, hn⟩

set_option maxRecDepth 100000 in
set_option maxHeartbeats 4000000 in
theorem same_n (v f : Value) (ps : List (ByteArray × Int)) (k : Int) (w : World) (hg : Laid w) (hv : ErrIs w v ps k) (hf : FailN w f ps k) (hne : ps ≠ []) (hL : ps.length ≤ 1000)
    (hk : ∀ w', New w w' → Calls Tryd.prog 38 #[v] w' fun e w'' => e = .returned (.int .i64 k) ∧ w'' = w') :
    Calls Tryd.prog 12 #[v, f] w fun e w' => e = .returned (.bool true) ∧ New w w' := by
  obtain ⟨b, lb, pb, lc, pc, rfl, hb, h2, h3, h6⟩ := id hf
  obtain ⟨eb0, rfl⟩ : ∃ eb, v = .iface 88 (.pointer (some ⟨eb, 0, none⟩)) := by
    rcases ps with _ | ⟨⟨l, n⟩, r⟩
    · exact absurd rfl hne
    · obtain ⟨b, _, hv, _⟩ := hv; exact ⟨b, hv⟩
  obtain ⟨L, hLL⟩ : ∃ L, ps.length = L := ⟨_, rfl⟩
  rw [hLL] at hb hL
  have c2 : w.cell? ⟨b, 2, none⟩ = some (.int .i64 k) := cell_of_block hb 2
  have c0 : w.cell? ⟨b, 0, none⟩ = some (.slice (some ⟨lb, 0, none⟩) L lc) := cell_of_block hb 0
  have HV := Lib.hid hv
  have HG := Lib.hid hg
  have HK := Lib.hid hk
  have HLL := Lib.hid hLL
  have HB := Lib.hid (fun (w' : World) (f : New w w') => show w'.heap[b]? = some (.cells #[.slice (some ⟨lb, 0, none⟩) L lc, .slice (some ⟨pb, 0, none⟩) L pc, .int .i64 k] 87 (0, 0)) from (by rw [f.block b (lt_of_block hb) id]; exact hb))
  have H6 := Lib.hid (fun (w' : World) (f : New w w') (j : Nat) (p : ByteArray × Int) (hp : ps[j]? = some p) => And.intro ((f.cell h2 id _).trans (h6 j p hp).1) ((f.cell h3 id _).trans (h6 j p hp).2))
  clear hv hf hb h6 hg hk hLL hne
  go_enter Tryd.func12, Tryd.ntmps12
  go_wp2_with fail
  go_quiet ((go_at_call 38; exact Calls.quiet_of_same (HK.out _ ((Fr.refl _ _).drewN _))))
  go_wp2_with fail
  have f0 : New w (w.drewN nq) := (Fr.refl _ _).drewN nq
  have HF0 := Lib.hid f0
  generalize w.drewN nq = w0 at HF0 ⊢
  clear c0 c2 HK f0
  go_loopw [0, 5] (fun e i wr => ∃ j : Nat, j ≤ L ∧ i = .int .i64 j ∧ ErrIs wr e (ps.drop j) k ∧ New w wr) (fun _ i _ => L - (intOf i).toNat)
  case atStart => exact ⟨0, by omega, rfl, HV.out.new HF0.out, HF0.out⟩
  case round =>
    clear HF0 HV
    obtain ⟨j, hj, rfl, hv, hn⟩ := hrel
    have HN := Lib.hid hn
    have hb := HB.out _ hn
    have d0 : wr.cell? ⟨b, 0, none⟩ = some (.slice (some ⟨lb, 0, none⟩) L lc) := cell_of_block hb 0
    have l1 := lt_of_block hb
    by_cases hlt : j < L
    · obtain ⟨⟨l, n⟩, hp⟩ : ∃ p, ps[j]? = some p := ⟨ps[j]'(by rw [HLL.out]; exact hlt), by simp⟩
      rw [List.drop_eq_getElem_cons (by rw [HLL.out]; exact hlt)] at hv
      have hpe : ps[j]'(by rw [HLL.out]; exact hlt) = (l, n) := by
        obtain ⟨_, e2⟩ := List.getElem?_eq_some_iff.1 hp; exact e2
      rw [hpe] at hv
      obtain ⟨eb, inner, rfl, heb, hin⟩ := hv
      obtain ⟨hl, hq⟩ := H6.out _ hn j _ hp
      have h2' := Nat.lt_of_lt_of_le h2 hn.size
      have h3' := Nat.lt_of_lt_of_le h3 hn.size
      have hA := as_hit eb wr.heap.size (.pointer none) (wr.alloc (.cells #[.pointer none] 88)).drew (HG.out.keep ((hn.alloc _).drew) id) (by simp) (by simp)
      have HA := Lib.hid hA
      have HSF := Lib.hid (fun (w1 : World) (f : Fr (· = wr.heap.size) (wr.alloc (.cells #[.pointer none] 88)).drew w1) => same_factsN f hb h2' h3' hl hq heb)
      obtain ⟨p1, p2, p3, p4, p5, p6, _, _⟩ := HSF.out _ (Fr.refl (· = wr.heap.size) (wr.alloc (.cells #[.pointer none] 88)).drew)
      have HIN := Lib.hid hin
      have hform := errIs_form hin
      have q1 : (0 : Int) ≤ (j : Int) := by omega
      have q2 : (j : Int) < (L : Int) := by omega
      clear hA hb hl hq heb hin hp hpe hn
      go_wp2_with fail
      refine regStart (by kernel_rfl) ?_
      refine wpAnyH_take (i := 0) (v := ?_) rfl (by kernel_rfl) (by kernel_rfl) (by kernel_rfl) (fun _ _ _ h => h) (Or.inl ⟨by rfl, ?_⟩) trivial ?_
      rotate_left
      · intro w _; go_simp; rfl
      refine wpAnyH_take (i := 1) (v := ?_) rfl (by kernel_rfl) (by kernel_rfl) (by kernel_rfl) (fun _ _ _ h => h) (Or.inl ⟨by rfl, ?_⟩) trivial ?_
      rotate_left
      · intro w _; go_simp; rfl
      refine regBarrier (i := 2) (by kernel_rfl) rfl (by rfl) (fun K hK => ?_)
      go_simp
      refine HA.out.mono ?_
      rintro e w1 ⟨rfl, ht, hf, hfr⟩
      obtain ⟨g1, g2, g3, g4, g5, g6, g7, g8⟩ := HSF.out _ hfr
      clear hfr hf p1 p2 p3 p4 p5 p6
      refine hK.out _ _ ?_
      clear hK K
      refine regRest 3 (by kernel_rfl) (by rfl) (by kernel_rfl) ?_
      simp only [List.drop_succ_cons, List.drop_zero]
      repeat (first | go_big_quiet_step (fail) | quiet_step (fail))
      refine wpQuiet_nil ?_
      rintro _ ⟨m1, rfl⟩
      have F2 := Lib.hid (show New wr (w1.drewN m1) from g8.drewN m1)
      have z7 : (w1.drewN m1).cell? ⟨eb, 2, none⟩ = some inner := g7
      have zt : (w1.drewN m1).cell? ⟨wr.heap.size, 0, none⟩ = some (.pointer (some ⟨eb, 0, none⟩)) := ht
      generalize w1.drewN m1 = w2 at z7 zt F2 ⊢
      clear g1 g2 g3 g4 g5 g6 g7 g8 ht HA HSF d0
      rcases hform with ⟨k', rfl⟩ | ⟨eb2, rfl⟩
      all_goals
        go_wp2
        go_roundw
        case rel => exact ⟨j + 1, by omega, by go_num, HIN.out.new F2.out, HN.out.trans F2.out⟩
        case measure => simp [intOf]; omega
    · obtain rfl : j = L := by omega
      have hd : ps.drop j = [] := List.drop_eq_nil_of_le (by rw [HLL.out]; exact Nat.le_refl _)
      rw [hd] at hv
      obtain rfl : u0 = .iface 55 (.int .i64 k) := hv
      clear hb hn
      go_wp2_with (go_at_call 39; refine (as_miss k _ _ (HG.out.keep (HN.out.alloc _) id)).mono ?_; rintro e w3 ⟨rfl, hf3⟩)
      go_ret
      exact ⟨rfl, (HN.out.alloc _).trans hf3⟩

theorem same_2 (v f : Value) (l l2 : ByteArray) (n n2 k : Int) (w : World) (hg : Laid w) (hv : ErrIs w v [(l, n), (l2, n2)] k) (hf : FailN w f [(l, n), (l2, n2)] k) (h1 : 1 ≤ k) (h2 : k ≤ 10) :
    Calls Tryd.prog 12 #[v, f] w fun e w' => e = .returned (.bool true) ∧ New w w' :=
  same_n v f _ k w hg hv hf (by simp) (by simp) (fun w' fr => kind_2 v l l2 n n2 k w' (hv.new fr) h1 h2)

theorem strInfo : (Tryd.prog.info? 9).map (fun i => (i.zero, i.size, i.bytes)) = some (some (.string ⟨#[]⟩), 1, 16) := by kernel_rfl
theorem intInfo : (Tryd.prog.info? 3).map (fun i => (i.zero, i.size, i.bytes)) = some (some (.int .i64 0), 1, 8) := by kernel_rfl
theorem own_one (w : World) (x : Value) (e : TypeId) {base : Nat} (hb : base ≤ w.heap.size) : (w.alloc (.cells #[x] e)).ownsRow base e 1 (.slice (some ⟨w.heap.size, 0, none⟩) 1 1) 1 [x] :=
  ⟨rfl, .inr ⟨w.heap.size, 1, #[x], rfl, hb, block_alloc_new _ _, Nat.le_refl _, by unfold maxLen; omega, rfl, rfl⟩⟩
theorem own_keptE {w w' : World} {S : Nat → Prop} {base : Nat} {e : TypeId} {size n : Nat} {v : Value} {xs : List Value} (h : w.ownsRow base e size v n xs) (f : Fr S w w') (hs : ∀ k, v.ownBlock = some k → ¬ S k) : w'.ownsRow base e size v n xs := by
  refine ⟨h.1, ?_⟩
  rcases h.2 with h2 | ⟨g, cap, cur, hv, hg, hh, r⟩
  · exact .inl h2
  · exact .inr ⟨g, cap, cur, hv, hg, by rw [f.block g (lt_of_block hh) (hs g (by rw [hv]; rfl))]; exact hh, r⟩
theorem own_apartE {w : World} {base base' n n' size size' : Nat} {e e' : TypeId} {v v' : Value} {xs ys : List Value} (h : w.ownsRow base e size v n xs) (h' : w.ownsRow base' e' size' v' n' ys) (he : e ≠ e') : ∀ k, v.ownBlock = some k → ¬ (v'.ownBlock = some k) := by
  intro k h1 h2
  rcases h.2 with ⟨rfl, _⟩ | ⟨g, cap, cur, rfl, _, hg, _⟩
  · cases h1
  · rcases h'.2 with ⟨rfl, _⟩ | ⟨g', cap', cur', rfl, _, hg', _⟩
    · cases h2
    · obtain rfl : g = k := by simpa [Value.ownBlock] using h1
      obtain rfl : g' = g := by simpa [Value.ownBlock] using h2
      rw [hg, Option.some.injEq, Obj.cells.injEq] at hg'
      exact he hg'.2.1
theorem own_row1 {w : World} {base n : Nat} {e : TypeId} {v : Value} {xs : List Value} (h : w.ownsRow base e 1 v n xs) (hn : 0 < n) : ∃ g c, v = .slice (some ⟨g, 0, none⟩) n c ∧ g < w.heap.size ∧ ∀ (j : Nat) u, xs[j]? = some u → w.cell? ⟨g, j, none⟩ = some u := by
  rcases h.2 with ⟨_, rfl⟩ | ⟨g, cap, cur, rfl, h2, h3, h4, h5, h6, h7⟩
  · omega
  · refine ⟨g, cap, rfl, lt_of_block h3, fun j u hj => ?_⟩
    rw [cell_of_block h3]
    rw [← h7, List.getElem?_take] at hj
    split at hj
    · rwa [Array.getElem?_toList] at hj
    · cases hj
theorem addr_add (b j : Nat) : (⟨b, 0, none⟩ : Addr).add j = ⟨b, j, none⟩ := by unfold Addr.add; split <;> simp_all

/-- The document's error, wrapped. -/
theorem in_fin {W W4 : World} {l : ByteArray} {n k : Int} {ps : List (ByteArray × Int)} {L : Nat} {v1 v2 : Value} (hLL : ps.length = L) (hn : New W W4) (h1 : W4.ownsRow W.heap.size 9 1 v1 (1 + L) ([.string l] ++ ps.map fun p => Value.string p.1)) (h2 : W4.ownsRow W.heap.size 3 1 v2 (1 + L) ([.int .i64 n] ++ ps.map fun p => Value.int .i64 p.2)) :
    FailN (W4.alloc (.cells #[v1, v2, .int .i64 k] 87)) (.pointer (some ⟨W4.heap.size, 0, none⟩)) ((l, n) :: ps) k ∧ New W (W4.alloc (.cells #[v1, v2, .int .i64 k] 87)) := by
  obtain ⟨g1, c1, rfl, hg1, e1⟩ := own_row1 h1 (by omega)
  obtain ⟨g2, c2, rfl, hg2, e2⟩ := own_row1 h2 (by omega)
  have ha : New W4 (W4.alloc (.cells #[.slice (some ⟨g1, 0, none⟩) (1 + L) c1, .slice (some ⟨g2, 0, none⟩) (1 + L) c2, .int .i64 k] 87)) := (Fr.refl _ _).alloc _
  refine ⟨⟨W4.heap.size, g1, g2, c1, c2, rfl, ?_, Nat.lt_of_lt_of_le hg1 ha.size, Nat.lt_of_lt_of_le hg2 ha.size, fun j p hp => ⟨(ha.cell hg1 id _).trans (e1 j _ ?_), (ha.cell hg2 id _).trans (e2 j _ ?_)⟩⟩, hn.trans ha⟩
  · rw [block_alloc_new, List.length_cons, hLL, Nat.add_comm]
  · have := congrArg (Option.map fun p : ByteArray × Int => Value.string p.1) hp
    simpa [← List.map_cons] using (by rw [show [Value.string l] ++ ps.map (fun p => Value.string p.1) = ((l, n) :: ps).map (fun p => Value.string p.1) from rfl, List.getElem?_map]; exact this : ([Value.string l] ++ ps.map (fun p => Value.string p.1))[j]? = _)
  · have := congrArg (Option.map fun p : ByteArray × Int => Value.int .i64 p.2) hp
    simpa [← List.map_cons] using (by rw [show [Value.int .i64 n] ++ ps.map (fun p => Value.int .i64 p.2) = ((l, n) :: ps).map (fun p => Value.int .i64 p.2) from rfl, List.getElem?_map]; exact this : ([Value.int .i64 n] ++ ps.map (fun p => Value.int .i64 p.2))[j]? = _)

set_option maxRecDepth 100000 in
set_option maxHeartbeats 4000000 in
theorem in_any (l : ByteArray) (n : Int) (f : Value) (ps : List (ByteArray × Int)) (k : Int) (w : World) (hf : FailN w f ps k) (hL : ps.length ≤ 1000) :
    Calls Tryd.prog 15 #[.string l, .int .i64 n, f] w fun e w' => ∃ f', e = .returned f' ∧ FailN w' f' ((l, n) :: ps) k ∧ New w w' := by
  obtain ⟨b, lb, pb, lc, pc, rfl, hb, h2, h3, h6⟩ := hf
  obtain ⟨L, hLL⟩ : ∃ L, ps.length = L := ⟨_, rfl⟩
  rw [hLL] at hb hL
  obtain ⟨is, hi, hz0, hz1, hz2⟩ := info_parts strInfo
  obtain ⟨ii, hj, hy0, hy1, hy2⟩ := info_parts intInfo
  go_enter Tryd.func15, Tryd.ntmps15
  go_wp2_with fail
  have c0 : w.drew.cell? ⟨b, 0, none⟩ = some (.slice (some ⟨lb, 0, none⟩) L lc) := cell_of_block hb 0
  have c1 : w.drew.cell? ⟨b, 1, none⟩ = some (.slice (some ⟨pb, 0, none⟩) L pc) := cell_of_block hb 1
  have c2 : w.drew.cell? ⟨b, 2, none⟩ = some (.int .i64 k) := cell_of_block hb 2
  have l1 : b < w.drew.heap.size := lt_of_block hb
  refine heldStart (fun W' => W'.cell? ⟨b, 0, none⟩ = some (.slice (some ⟨lb, 0, none⟩) L lc) ∧ W'.cell? ⟨b, 1, none⟩ = some (.slice (some ⟨pb, 0, none⟩) L pc) ∧ W'.cell? ⟨b, 2, none⟩ = some (.int .i64 k)) (by kernel_rfl) ?_
  have s0 := And.intro c0 (And.intro c1 c2)
  have HN0 := Lib.hid (show New w w.drew from (Fr.refl _ _).drew)
  have HS := Lib.hid (fun (w' : World) (g : New w.drew w') => And.intro ((g.cell l1 id _).trans c0) (And.intro ((g.cell l1 id _).trans c1) ((g.cell l1 id _).trans c2)))
  have HS1 := Lib.hid (fun (w' : World) (g : New w.drew w') (j : Nat) (u : Value) (hu : (ps.map fun p => Value.string p.1)[j]? = some u) => show w'.cell? ((⟨lb, 0, none⟩ : Addr).add j) = some u from by
    rw [addr_add, (HN0.out.trans g).cell h2 id]
    rw [List.getElem?_map] at hu
    cases hp : ps[j]? with
    | none => rw [hp] at hu; cases hu
    | some p => rw [hp] at hu; cases hu; exact (h6 j p hp).1)
  have HS2 := Lib.hid (fun (w' : World) (g : New w.drew w') (j : Nat) (u : Value) (hu : (ps.map fun p => Value.int .i64 p.2)[j]? = some u) => show w'.cell? ((⟨pb, 0, none⟩ : Addr).add j) = some u from by
    rw [addr_add, (HN0.out.trans g).cell h3 id]
    rw [List.getElem?_map] at hu
    cases hp : ps[j]? with
    | none => rw [hp] at hu; cases hu
    | some p => rw [hp] at hu; cases hu; exact (h6 j p hp).2)
  have HLL := Lib.hid hLL
  have HM1 := Lib.hid (show (ps.map fun p => Value.string p.1).length = L * 1 by simp [hLL])
  have HM2 := Lib.hid (show (ps.map fun p => Value.int .i64 p.2).length = L * 1 by simp [hLL])
  have HO1 := Lib.hid (show ∀ u ∈ ps.map (fun p => Value.string p.1), u.oneCell' = true from fun u hu => by obtain ⟨p, _, rfl⟩ := List.mem_map.1 hu; rfl)
  have HO2 := Lib.hid (show ∀ u ∈ ps.map (fun p => Value.int .i64 p.2), u.oneCell' = true from fun u hu => by obtain ⟨p, _, rfl⟩ := List.mem_map.1 hu; rfl)
  clear hb h6 c0 c1 c2 hLL
  generalize hms : (ps.map fun p => Value.string p.1) = ms at HS1 HM1 HO1
  generalize hmi : (ps.map fun p => Value.int .i64 p.2) = mi at HS2 HM2 HO2
  have HMS := Lib.hid hms
  have HMI := Lib.hid hmi
  clear hms hmi
  generalize w.drew = W at s0 l1 HN0 HS HS1 HS2 ⊢
  refine wpAnyH_take (i := 0) (v := ?_) rfl (by kernel_rfl) (by kernel_rfl) (by kernel_rfl) (fun _ _ _ h => h) (Or.inl ⟨by rfl, ?_⟩) s0 ?_
  rotate_left
  · intro w hSw; first | (obtain ⟨s1, s2, s3, s4, s5, s6, s7, s8⟩ := hSw; go_simp; rfl) | (obtain ⟨s1, s2, s3, s4, s5, s6, s7⟩ := hSw; go_simp; rfl) | (obtain ⟨s1, s2, s3⟩ := hSw; go_simp; rfl) | (obtain ⟨s1, s2⟩ := hSw; go_simp; rfl) | (have s1 := hSw; go_simp; rfl)
  go_simp
  refine wpAnyH_take (i := 2) (v := ?_) rfl (by kernel_rfl) (by kernel_rfl) (by kernel_rfl) (fun _ _ _ h => h) (Or.inl ⟨by rfl, ?_⟩) s0 ?_
  rotate_left
  · intro w hSw; first | (obtain ⟨s1, s2, s3, s4, s5, s6, s7, s8⟩ := hSw; go_simp; rfl) | (obtain ⟨s1, s2, s3, s4, s5, s6, s7⟩ := hSw; go_simp; rfl) | (obtain ⟨s1, s2, s3⟩ := hSw; go_simp; rfl) | (obtain ⟨s1, s2⟩ := hSw; go_simp; rfl) | (have s1 := hSw; go_simp; rfl)
  go_simp
  refine wpAnyH_take (i := 3) (v := ?_) rfl (by kernel_rfl) (by kernel_rfl) (by kernel_rfl) (fun _ _ _ h => h) (Or.inl ⟨by rfl, ?_⟩) s0 ?_
  rotate_left
  · intro w hSw; first | (obtain ⟨s1, s2, s3, s4, s5, s6, s7, s8⟩ := hSw; go_simp; rfl) | (obtain ⟨s1, s2, s3, s4, s5, s6, s7⟩ := hSw; go_simp; rfl) | (obtain ⟨s1, s2, s3⟩ := hSw; go_simp; rfl) | (obtain ⟨s1, s2⟩ := hSw; go_simp; rfl) | (have s1 := hSw; go_simp; rfl)
  go_simp
  refine wpAnyH_take (i := 4) (v := ?_) rfl (by kernel_rfl) (by kernel_rfl) (by kernel_rfl) (fun _ _ _ h => h) (Or.inl ⟨by rfl, ?_⟩) s0 ?_
  rotate_left
  · intro w hSw; first | (obtain ⟨s1, s2, s3, s4, s5, s6, s7, s8⟩ := hSw; go_simp; rfl) | (obtain ⟨s1, s2, s3, s4, s5, s6, s7⟩ := hSw; go_simp; rfl) | (obtain ⟨s1, s2, s3⟩ := hSw; go_simp; rfl) | (obtain ⟨s1, s2⟩ := hSw; go_simp; rfl) | (have s1 := hSw; go_simp; rfl)
  go_simp
  refine wpAnyH_take (i := 5) (v := ?_) rfl (by kernel_rfl) (by kernel_rfl) (by kernel_rfl) (fun _ _ _ h => h) (Or.inl ⟨by rfl, ?_⟩) s0 ?_
  rotate_left
  · intro w hSw; first | (obtain ⟨s1, s2, s3, s4, s5, s6, s7, s8⟩ := hSw; go_simp; rfl) | (obtain ⟨s1, s2, s3, s4, s5, s6, s7⟩ := hSw; go_simp; rfl) | (obtain ⟨s1, s2, s3⟩ := hSw; go_simp; rfl) | (obtain ⟨s1, s2⟩ := hSw; go_simp; rfl) | (have s1 := hSw; go_simp; rfl)
  go_simp
  refine wpAnyH_take (i := 7) (v := ?_) rfl (by kernel_rfl) (by kernel_rfl) (by kernel_rfl) (fun _ _ _ h => h) (Or.inl ⟨by rfl, ?_⟩) s0 ?_
  rotate_left
  · intro w hSw; first | (obtain ⟨s1, s2, s3, s4, s5, s6, s7, s8⟩ := hSw; go_simp; rfl) | (obtain ⟨s1, s2, s3, s4, s5, s6, s7⟩ := hSw; go_simp; rfl) | (obtain ⟨s1, s2, s3⟩ := hSw; go_simp; rfl) | (obtain ⟨s1, s2⟩ := hSw; go_simp; rfl) | (have s1 := hSw; go_simp; rfl)
  go_simp
  refine wpAnyH_take (i := 9) (v := ?_) rfl (by kernel_rfl) (by kernel_rfl) (by kernel_rfl) (fun _ _ _ h => h) (Or.inl ⟨by rfl, ?_⟩) s0 ?_
  rotate_left
  · intro w hSw; first | (obtain ⟨s1, s2, s3, s4, s5, s6, s7, s8⟩ := hSw; go_simp; rfl) | (obtain ⟨s1, s2, s3, s4, s5, s6, s7⟩ := hSw; go_simp; rfl) | (obtain ⟨s1, s2, s3⟩ := hSw; go_simp; rfl) | (obtain ⟨s1, s2⟩ := hSw; go_simp; rfl) | (have s1 := hSw; go_simp; rfl)
  go_simp
  refine wpAnyH_take (i := 10) (v := ?_) rfl (by kernel_rfl) (by kernel_rfl) (by kernel_rfl) (fun _ _ _ h => h) (Or.inl ⟨by rfl, ?_⟩) s0 ?_
  rotate_left
  · intro w hSw; first | (obtain ⟨s1, s2, s3, s4, s5, s6, s7, s8⟩ := hSw; go_simp; rfl) | (obtain ⟨s1, s2, s3, s4, s5, s6, s7⟩ := hSw; go_simp; rfl) | (obtain ⟨s1, s2, s3⟩ := hSw; go_simp; rfl) | (obtain ⟨s1, s2⟩ := hSw; go_simp; rfl) | (have s1 := hSw; go_simp; rfl)
  go_simp
  refine wpAnyH_take (i := 11) (v := ?_) rfl (by kernel_rfl) (by kernel_rfl) (by kernel_rfl) (fun _ _ _ h => h) (Or.inl ⟨by rfl, ?_⟩) s0 ?_
  rotate_left
  · intro w hSw; first | (obtain ⟨s1, s2, s3, s4, s5, s6, s7, s8⟩ := hSw; go_simp; rfl) | (obtain ⟨s1, s2, s3, s4, s5, s6, s7⟩ := hSw; go_simp; rfl) | (obtain ⟨s1, s2, s3⟩ := hSw; go_simp; rfl) | (obtain ⟨s1, s2⟩ := hSw; go_simp; rfl) | (have s1 := hSw; go_simp; rfl)
  go_simp
  refine wpAnyH_take (i := 12) (v := ?_) rfl (by kernel_rfl) (by kernel_rfl) (by kernel_rfl) (fun _ _ _ h => h) (Or.inl ⟨by rfl, ?_⟩) s0 ?_
  rotate_left
  · intro w hSw; first | (obtain ⟨s1, s2, s3, s4, s5, s6, s7, s8⟩ := hSw; go_simp; rfl) | (obtain ⟨s1, s2, s3, s4, s5, s6, s7⟩ := hSw; go_simp; rfl) | (obtain ⟨s1, s2, s3⟩ := hSw; go_simp; rfl) | (obtain ⟨s1, s2⟩ := hSw; go_simp; rfl) | (have s1 := hSw; go_simp; rfl)
  go_simp
  refine wpAnyH_take (i := 14) (v := ?_) rfl (by kernel_rfl) (by kernel_rfl) (by kernel_rfl) (fun _ _ _ h => h) (Or.inl ⟨by rfl, ?_⟩) s0 ?_
  rotate_left
  · intro w hSw; first | (obtain ⟨s1, s2, s3, s4, s5, s6, s7, s8⟩ := hSw; go_simp; rfl) | (obtain ⟨s1, s2, s3, s4, s5, s6, s7⟩ := hSw; go_simp; rfl) | (obtain ⟨s1, s2, s3⟩ := hSw; go_simp; rfl) | (obtain ⟨s1, s2⟩ := hSw; go_simp; rfl) | (have s1 := hSw; go_simp; rfl)
  go_simp
  refine wpAnyH_take (i := 15) (v := ?_) rfl (by kernel_rfl) (by kernel_rfl) (by kernel_rfl) (fun _ _ _ h => h) (Or.inl ⟨by rfl, ?_⟩) s0 ?_
  rotate_left
  · intro w hSw; first | (obtain ⟨s1, s2, s3, s4, s5, s6, s7, s8⟩ := hSw; go_simp; rfl) | (obtain ⟨s1, s2, s3, s4, s5, s6, s7⟩ := hSw; go_simp; rfl) | (obtain ⟨s1, s2, s3⟩ := hSw; go_simp; rfl) | (obtain ⟨s1, s2⟩ := hSw; go_simp; rfl) | (have s1 := hSw; go_simp; rfl)
  go_simp
  refine wpAnyH_take (i := 16) (v := ?_) rfl (by kernel_rfl) (by kernel_rfl) (by kernel_rfl) (fun _ _ _ h => h) (Or.inl ⟨by rfl, ?_⟩) s0 ?_
  rotate_left
  · intro w hSw; first | (obtain ⟨s1, s2, s3, s4, s5, s6, s7, s8⟩ := hSw; go_simp; rfl) | (obtain ⟨s1, s2, s3, s4, s5, s6, s7⟩ := hSw; go_simp; rfl) | (obtain ⟨s1, s2, s3⟩ := hSw; go_simp; rfl) | (obtain ⟨s1, s2⟩ := hSw; go_simp; rfl) | (have s1 := hSw; go_simp; rfl)
  go_simp
  refine wpAnyH_take (i := 17) (v := ?_) rfl (by kernel_rfl) (by kernel_rfl) (by kernel_rfl) (fun _ _ _ h => h) (Or.inl ⟨by rfl, ?_⟩) s0 ?_
  rotate_left
  · intro w hSw; first | (obtain ⟨s1, s2, s3, s4, s5, s6, s7, s8⟩ := hSw; go_simp; rfl) | (obtain ⟨s1, s2, s3, s4, s5, s6, s7⟩ := hSw; go_simp; rfl) | (obtain ⟨s1, s2, s3⟩ := hSw; go_simp; rfl) | (obtain ⟨s1, s2⟩ := hSw; go_simp; rfl) | (have s1 := hSw; go_simp; rfl)
  go_simp
  refine heldEither (i := 1) (j := 8) (by kernel_rfl) rfl rfl (by rfl) (by rfl) (fun K hK => ?_) (fun K hK => ?_)
  · have N0 := Lib.hid (Fr.refl (fun _ => False) W)
    go_simp
    have N1 := Lib.hid (N0.out.alloc (.cells #[.string l] 9))
    have hA := own_one _ (.string l) 9 (base := W.heap.size) N0.out.size
    try rw [World.size_alloc] at hA
    have A1 := Lib.hid hA
    clear hA
    refine hK.out _ _ (HS.out _ N1.out) ?_
    clear hK K
    refine heldEither (i := 6) (j := 8) (by kernel_rfl) rfl rfl (by rfl) (by rfl) (fun K hK => ?_) (fun K hK => ?_)
    · skip
      refine wp_append_own _ (.tmp 10) (.tmp 14) 85 rfl W.heap.size 9 is _ 1 16 Tryd.underlying85 hi hz0 hz1 hz2 rfl (by decide) _ _ _ rfl A1.out ⟨lb, 0, none⟩ L lc ms rfl HM1.out (HS1.out _ N1.out) HO1.out (by unfold maxLen; omega) (by omega) N1.out.size ?_
      intro v2 w2 hown hgrow hnil
      obtain ⟨g2, c2, rfl, _, _⟩ := own_row1 hown (by omega)
      have hf := (Fr.refl _ _).grown hgrow (fun kk hkk _ => hkk)
      have A2 := Lib.hid hown
      have N2 := Lib.hid (N1.out.then hf (fun i hi e => by have := (A1.out.lt i e).1; omega))
      refine hK.out _ _ (HS.out _ N2.out) ?_
      clear hK K hown hgrow hnil hf
      refine heldOne (i := 8) (by kernel_rfl) rfl (by rfl) (fun K hK => ?_)
      go_simp
      have N3 := Lib.hid (N2.out.alloc (.cells #[.int .i64 n] 3))
      have hA := own_one _ (.int .i64 n) 3 (base := W.heap.size) N2.out.size
      try rw [World.size_alloc] at hA
      have B3 := Lib.hid hA
      clear hA
      have A3 := Lib.hid (own_keptE A2.out ((Fr.refl (fun _ => False) _).alloc (.cells #[.int .i64 n] 3)) (fun _ _ h => h))
      refine hK.out _ _ (HS.out _ N3.out) ?_
      clear hK K
      refine heldOne (i := 13) (by kernel_rfl) rfl (by rfl) (fun K hK => ?_)
      refine wp_append_own _ (.tmp 17) (.tmp 21) 24 rfl W.heap.size 3 ii _ 1 8 Tryd.underlying24 hj hy0 hy1 hy2 rfl (by decide) _ _ _ rfl B3.out ⟨pb, 0, none⟩ L pc mi rfl HM2.out (HS2.out _ N3.out) HO2.out (by unfold maxLen; omega) (by omega) N3.out.size ?_
      intro v4 w4 hown hgrow hnil
      obtain ⟨g4, c4, rfl, _, _⟩ := own_row1 hown (by omega)
      have hf := (Fr.refl _ _).grown hgrow (fun kk hkk _ => hkk)
      have B4 := Lib.hid hown
      have N4 := Lib.hid (N3.out.then hf (fun i hi e => by have := (B3.out.lt i e).1; omega))
      have A4 := Lib.hid (own_keptE A3.out hf (own_apartE A3.out B3.out (by decide)))
      refine hK.out _ _ (HS.out _ N4.out) ?_
      clear hK K hown hgrow hnil hf
      have sF := HS.out _ N4.out
      refine wpAnyH_take (i := 18) (v := ?_) rfl (by kernel_rfl) (by kernel_rfl) (by kernel_rfl) (fun _ _ _ h => h) (Or.inl ⟨by rfl, ?_⟩) sF ?_
      rotate_left
      · intro w hSw; first | (obtain ⟨s1, s2, s3, s4, s5, s6, s7, s8⟩ := hSw; go_simp; rfl) | (obtain ⟨s1, s2, s3, s4, s5, s6, s7⟩ := hSw; go_simp; rfl) | (obtain ⟨s1, s2, s3⟩ := hSw; go_simp; rfl) | (obtain ⟨s1, s2⟩ := hSw; go_simp; rfl) | (have s1 := hSw; go_simp; rfl)
      go_simp
      refine heldOne (i := 19) (by kernel_rfl) rfl (by rfl) (fun K hK => ?_)
      go_simp
      have hin := in_fin (W := W) (l := l) (n := n) (k := k) HLL.out N4.out (by rw [HMS.out]; exact A4.out) (by rw [HMI.out]; exact B4.out)
      have HIN := Lib.hid hin
      refine hK.out _ _ (HS.out _ hin.2) ?_
      have sG := HS.out _ hin.2
      clear hK K hin sF
      refine wpAnyH_take (i := 20) (v := ?_) rfl (by kernel_rfl) (by kernel_rfl) (by kernel_rfl) (fun _ _ _ h => h) (Or.inl ⟨by rfl, ?_⟩) sG ?_
      rotate_left
      · intro w hSw; first | (obtain ⟨s1, s2, s3, s4, s5, s6, s7, s8⟩ := hSw; go_simp; rfl) | (obtain ⟨s1, s2, s3, s4, s5, s6, s7⟩ := hSw; go_simp; rfl) | (obtain ⟨s1, s2, s3⟩ := hSw; go_simp; rfl) | (obtain ⟨s1, s2⟩ := hSw; go_simp; rfl) | (have s1 := hSw; go_simp; rfl)
      go_simp
      refine wpAnyH_done (by kernel_rfl) ?_ _
      clear sG
      go_wp2
      go_ret
      exact ⟨_, rfl, HIN.out.1, HN0.out.trans HIN.out.2⟩
    · skip
      go_simp
      have N6 := Lib.hid (N1.out.alloc (.cells #[.int .i64 n] 3))
      have hA := own_one _ (.int .i64 n) 3 (base := W.heap.size) N1.out.size
      try rw [World.size_alloc] at hA
      have B6 := Lib.hid hA
      clear hA
      have A6 := Lib.hid (own_keptE A1.out ((Fr.refl (fun _ => False) _).alloc (.cells #[.int .i64 n] 3)) (fun _ _ h => h))
      refine hK.out _ _ (HS.out _ N6.out) ?_
      clear hK K
      refine heldOne (i := 6) (by kernel_rfl) rfl (by rfl) (fun K hK => ?_)
      refine wp_append_own _ (.tmp 10) (.tmp 14) 85 rfl W.heap.size 9 is _ 1 16 Tryd.underlying85 hi hz0 hz1 hz2 rfl (by decide) _ _ _ rfl A6.out ⟨lb, 0, none⟩ L lc ms rfl HM1.out (HS1.out _ N6.out) HO1.out (by unfold maxLen; omega) (by omega) N6.out.size ?_
      intro v7 w7 hown hgrow hnil
      obtain ⟨g7, c7, rfl, _, _⟩ := own_row1 hown (by omega)
      have hf := (Fr.refl _ _).grown hgrow (fun kk hkk _ => hkk)
      have A7 := Lib.hid hown
      have N7 := Lib.hid (N6.out.then hf (fun i hi e => by have := (A6.out.lt i e).1; omega))
      have B7 := Lib.hid (own_keptE B6.out hf (own_apartE B6.out A6.out (by decide)))
      refine hK.out _ _ (HS.out _ N7.out) ?_
      clear hK K hown hgrow hnil hf
      refine heldOne (i := 13) (by kernel_rfl) rfl (by rfl) (fun K hK => ?_)
      refine wp_append_own _ (.tmp 17) (.tmp 21) 24 rfl W.heap.size 3 ii _ 1 8 Tryd.underlying24 hj hy0 hy1 hy2 rfl (by decide) _ _ _ rfl B7.out ⟨pb, 0, none⟩ L pc mi rfl HM2.out (HS2.out _ N7.out) HO2.out (by unfold maxLen; omega) (by omega) N7.out.size ?_
      intro v8 w8 hown hgrow hnil
      obtain ⟨g8, c8, rfl, _, _⟩ := own_row1 hown (by omega)
      have hf := (Fr.refl _ _).grown hgrow (fun kk hkk _ => hkk)
      have B8 := Lib.hid hown
      have N8 := Lib.hid (N7.out.then hf (fun i hi e => by have := (B7.out.lt i e).1; omega))
      have A8 := Lib.hid (own_keptE A7.out hf (own_apartE A7.out B7.out (by decide)))
      refine hK.out _ _ (HS.out _ N8.out) ?_
      clear hK K hown hgrow hnil hf
      have sF := HS.out _ N8.out
      refine wpAnyH_take (i := 18) (v := ?_) rfl (by kernel_rfl) (by kernel_rfl) (by kernel_rfl) (fun _ _ _ h => h) (Or.inl ⟨by rfl, ?_⟩) sF ?_
      rotate_left
      · intro w hSw; first | (obtain ⟨s1, s2, s3, s4, s5, s6, s7, s8⟩ := hSw; go_simp; rfl) | (obtain ⟨s1, s2, s3, s4, s5, s6, s7⟩ := hSw; go_simp; rfl) | (obtain ⟨s1, s2, s3⟩ := hSw; go_simp; rfl) | (obtain ⟨s1, s2⟩ := hSw; go_simp; rfl) | (have s1 := hSw; go_simp; rfl)
      go_simp
      refine heldOne (i := 19) (by kernel_rfl) rfl (by rfl) (fun K hK => ?_)
      go_simp
      have hin := in_fin (W := W) (l := l) (n := n) (k := k) HLL.out N8.out (by rw [HMS.out]; exact A8.out) (by rw [HMI.out]; exact B8.out)
      have HIN := Lib.hid hin
      refine hK.out _ _ (HS.out _ hin.2) ?_
      have sG := HS.out _ hin.2
      clear hK K hin sF
      refine wpAnyH_take (i := 20) (v := ?_) rfl (by kernel_rfl) (by kernel_rfl) (by kernel_rfl) (fun _ _ _ h => h) (Or.inl ⟨by rfl, ?_⟩) sG ?_
      rotate_left
      · intro w hSw; first | (obtain ⟨s1, s2, s3, s4, s5, s6, s7, s8⟩ := hSw; go_simp; rfl) | (obtain ⟨s1, s2, s3, s4, s5, s6, s7⟩ := hSw; go_simp; rfl) | (obtain ⟨s1, s2, s3⟩ := hSw; go_simp; rfl) | (obtain ⟨s1, s2⟩ := hSw; go_simp; rfl) | (have s1 := hSw; go_simp; rfl)
      go_simp
      refine wpAnyH_done (by kernel_rfl) ?_ _
      clear sG
      go_wp2
      go_ret
      exact ⟨_, rfl, HIN.out.1, HN0.out.trans HIN.out.2⟩
  · have N0 := Lib.hid (Fr.refl (fun _ => False) W)
    go_simp
    have N10 := Lib.hid (N0.out.alloc (.cells #[.int .i64 n] 3))
    have hA := own_one _ (.int .i64 n) 3 (base := W.heap.size) N0.out.size
    try rw [World.size_alloc] at hA
    have B10 := Lib.hid hA
    clear hA
    refine hK.out _ _ (HS.out _ N10.out) ?_
    clear hK K
    refine heldOne (i := 1) (by kernel_rfl) rfl (by rfl) (fun K hK => ?_)
    go_simp
    have N11 := Lib.hid (N10.out.alloc (.cells #[.string l] 9))
    have hA := own_one _ (.string l) 9 (base := W.heap.size) N10.out.size
    try rw [World.size_alloc] at hA
    have A11 := Lib.hid hA
    clear hA
    have B11 := Lib.hid (own_keptE B10.out ((Fr.refl (fun _ => False) _).alloc (.cells #[.string l] 9)) (fun _ _ h => h))
    refine hK.out _ _ (HS.out _ N11.out) ?_
    clear hK K
    refine heldOne (i := 6) (by kernel_rfl) rfl (by rfl) (fun K hK => ?_)
    refine wp_append_own _ (.tmp 10) (.tmp 14) 85 rfl W.heap.size 9 is _ 1 16 Tryd.underlying85 hi hz0 hz1 hz2 rfl (by decide) _ _ _ rfl A11.out ⟨lb, 0, none⟩ L lc ms rfl HM1.out (HS1.out _ N11.out) HO1.out (by unfold maxLen; omega) (by omega) N11.out.size ?_
    intro v12 w12 hown hgrow hnil
    obtain ⟨g12, c12, rfl, _, _⟩ := own_row1 hown (by omega)
    have hf := (Fr.refl _ _).grown hgrow (fun kk hkk _ => hkk)
    have A12 := Lib.hid hown
    have N12 := Lib.hid (N11.out.then hf (fun i hi e => by have := (A11.out.lt i e).1; omega))
    have B12 := Lib.hid (own_keptE B11.out hf (own_apartE B11.out A11.out (by decide)))
    refine hK.out _ _ (HS.out _ N12.out) ?_
    clear hK K hown hgrow hnil hf
    refine heldOne (i := 13) (by kernel_rfl) rfl (by rfl) (fun K hK => ?_)
    refine wp_append_own _ (.tmp 17) (.tmp 21) 24 rfl W.heap.size 3 ii _ 1 8 Tryd.underlying24 hj hy0 hy1 hy2 rfl (by decide) _ _ _ rfl B12.out ⟨pb, 0, none⟩ L pc mi rfl HM2.out (HS2.out _ N12.out) HO2.out (by unfold maxLen; omega) (by omega) N12.out.size ?_
    intro v13 w13 hown hgrow hnil
    obtain ⟨g13, c13, rfl, _, _⟩ := own_row1 hown (by omega)
    have hf := (Fr.refl _ _).grown hgrow (fun kk hkk _ => hkk)
    have B13 := Lib.hid hown
    have N13 := Lib.hid (N12.out.then hf (fun i hi e => by have := (B12.out.lt i e).1; omega))
    have A13 := Lib.hid (own_keptE A12.out hf (own_apartE A12.out B12.out (by decide)))
    refine hK.out _ _ (HS.out _ N13.out) ?_
    clear hK K hown hgrow hnil hf
    have sF := HS.out _ N13.out
    refine wpAnyH_take (i := 18) (v := ?_) rfl (by kernel_rfl) (by kernel_rfl) (by kernel_rfl) (fun _ _ _ h => h) (Or.inl ⟨by rfl, ?_⟩) sF ?_
    rotate_left
    · intro w hSw; first | (obtain ⟨s1, s2, s3, s4, s5, s6, s7, s8⟩ := hSw; go_simp; rfl) | (obtain ⟨s1, s2, s3, s4, s5, s6, s7⟩ := hSw; go_simp; rfl) | (obtain ⟨s1, s2, s3⟩ := hSw; go_simp; rfl) | (obtain ⟨s1, s2⟩ := hSw; go_simp; rfl) | (have s1 := hSw; go_simp; rfl)
    go_simp
    refine heldOne (i := 19) (by kernel_rfl) rfl (by rfl) (fun K hK => ?_)
    go_simp
    have hin := in_fin (W := W) (l := l) (n := n) (k := k) HLL.out N13.out (by rw [HMS.out]; exact A13.out) (by rw [HMI.out]; exact B13.out)
    have HIN := Lib.hid hin
    refine hK.out _ _ (HS.out _ hin.2) ?_
    have sG := HS.out _ hin.2
    clear hK K hin sF
    refine wpAnyH_take (i := 20) (v := ?_) rfl (by kernel_rfl) (by kernel_rfl) (by kernel_rfl) (fun _ _ _ h => h) (Or.inl ⟨by rfl, ?_⟩) sG ?_
    rotate_left
    · intro w hSw; first | (obtain ⟨s1, s2, s3, s4, s5, s6, s7, s8⟩ := hSw; go_simp; rfl) | (obtain ⟨s1, s2, s3, s4, s5, s6, s7⟩ := hSw; go_simp; rfl) | (obtain ⟨s1, s2, s3⟩ := hSw; go_simp; rfl) | (obtain ⟨s1, s2⟩ := hSw; go_simp; rfl) | (have s1 := hSw; go_simp; rfl)
    go_simp
    refine wpAnyH_done (by kernel_rfl) ?_ _
    clear sG
    go_wp2
    go_ret
    exact ⟨_, rfl, HIN.out.1, HN0.out.trans HIN.out.2⟩
end Go.Proofs.YtngpcalgjaglmaaDoor
