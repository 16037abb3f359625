/- The statements' own comparison of an error with what the document says. -/
import Derived.Test.YtngpcalgjaglmaaDoorErrB
import Derived.BigQuiet
import Derived.Deep.QuietTactic
import Derived.Test.YtngpcalgjaglmaaDoorReg
namespace Go.Proofs.YtngpcalgjaglmaaDoor
open Go.RowKit

set_option maxHeartbeats 1000000 in
theorem kind_1 (v : Value) (l : ByteArray) (n k : Int) (w : World) (hv : ErrIs w v [(l, n)] k) (h1 : 1 ≤ k) (h2 : k ≤ 10) :
    Calls Tryd.prog 38 #[v] w fun e w' => e = .returned (.int .i64 k) ∧ w' = w := by
  have HV := Lib.hid hv
  clear hv
  go_enter Tryd.func38, Tryd.ntmps38
  go_wp2_with fail
  go_loop [3, 4] (fun f i => ∃ q : Nat, q ≤ 10 ∧ i = .int .i64 (q + 1) ∧ f = .int .i64 (if k ≤ q then k else 0)) (fun _ i => (11 - intOf i).toNat)
  case atStart => exact ⟨0, by omega, rfl, by rw [if_neg (by omega)]⟩
  case round =>
    obtain ⟨q, hq, rfl, rfl⟩ := hrel
    by_cases hlt : q < 10
    · by_cases he : k = q + 1
      · have HE := Lib.hid he
        have hb : (k == ((q : Int) + 1)) = true := by simp [he]
        have h0 : ¬ k ≤ q := by omega
        clear he
        go_wp2_with (go_at_call 57; refine (is_1 v l n k _ _ HV.out).mono ?_; rintro e w' ⟨rfl, rfl⟩)
        go_round
        case rel => exact ⟨q + 1, by omega, by go_num, by rw [if_pos (by have := HE.out; omega), HE.out]⟩
        case measure => simp [intOf]; omega
      · have hb : (k == ((q : Int) + 1)) = false := by simpa using he
        have hb' : (k == ((q : Int) + 1)) = false := hb
        by_cases hk : k ≤ q
        · go_wp2_with (go_at_call 57; refine (is_1 v l n k _ _ HV.out).mono ?_; rintro e w' ⟨rfl, rfl⟩)
          go_round
          case rel => exact ⟨q + 1, by omega, by go_num, by rw [if_pos (show k ≤ ((q + 1 : Nat) : Int) by omega)]⟩
          case measure => simp [intOf]; omega
        · go_wp2_with (go_at_call 57; refine (is_1 v l n k _ _ HV.out).mono ?_; rintro e w' ⟨rfl, rfl⟩)
          go_round
          case rel => exact ⟨q + 1, by omega, by go_num, by rw [if_neg (show ¬ k ≤ ((q + 1 : Nat) : Int) from (fun hc => he (by omega))), if_neg (show ¬ k ≤ (q : Int) by omega)]⟩
          case measure => simp [intOf]; omega
    · have hk : k ≤ q := by omega
      go_wp2
      go_ret
      exact ⟨rfl, rfl⟩

/-- What the document says: the error with one place. -/
def FailIs (w : World) (f : Value) (l : ByteArray) (n k : Int) : Prop :=
  ∃ b lb pb lc pc, f = .pointer (some ⟨b, 0, none⟩) ∧ w.heap[b]? = some (.cells #[.slice (some ⟨lb, 0, none⟩) 1 lc, .slice (some ⟨pb, 0, none⟩) 1 pc, .int .i64 k] 87 (0, 0)) ∧
    w.heap[lb]? = some (.cells #[.string l] 9 (0, 0)) ∧ w.heap[pb]? = some (.cells #[.int .i64 n] 3 (0, 0))

theorem FailIs.new {w w' : World} (f : New w w') {v : Value} {l : ByteArray} {n k : Int} (h : FailIs w v l n k) : FailIs w' v l n k := by
  obtain ⟨b, lb, pb, lc, pc, hv, h1, h2, h3⟩ := h
  exact ⟨b, lb, pb, lc, pc, hv, by rw [f.block b (lt_of_block h1) id]; exact h1, by rw [f.block lb (lt_of_block h2) id]; exact h2, by rw [f.block pb (lt_of_block h3) id]; exact h3⟩

set_option maxHeartbeats 1000000 in
theorem no_any (l : ByteArray) (n k : Int) (w : World) :
    Calls Tryd.prog 16 #[.string l, .int .i64 n, .int .i64 k] w fun e w' => ∃ f, e = .returned f ∧ FailIs w' f l n k ∧ New w w' := by
  go_enter Tryd.func16, Tryd.ntmps16
  go_wp2
  go_ret
  refine ⟨_, rfl, ⟨w.heap.size + 1 + 1, w.heap.size, w.heap.size + 1, 1, 1, rfl, ?_, ?_, ?_⟩, (((Fr.refl _ _).alloc _).alloc _).alloc _⟩
  · exact block_alloc_new2 _ _ _ _
  · rw [block_alloc (by simp; omega), block_alloc (by simp)]; exact block_alloc_new _ _
  · rw [block_alloc (by simp)]; exact block_alloc_new1 _ _ _

set_option maxHeartbeats 1000000 in
theorem same_nil (w : World) : Calls Tryd.prog 12 #[.nilIface, .pointer none] w fun e w' => e = .returned (.bool true) ∧ New w w' := by
  go_enter Tryd.func12, Tryd.ntmps12
  go_wp2
  go_ret
  exact ⟨rfl, Fr.refl _ _⟩

theorem same_facts {w0 w1 : World} {o : Obj} {b lb pb eb lc pc : Nat} {l : ByteArray} {n k : Int} {inner : Value} (f : Fr (· = w0.heap.size) (w0.alloc o).drew w1)
    (hb : w0.heap[b]? = some (.cells #[.slice (some ⟨lb, 0, none⟩) 1 lc, .slice (some ⟨pb, 0, none⟩) 1 pc, .int .i64 k] 87 (0, 0)))
    (hlb : w0.heap[lb]? = some (.cells #[.string l] 9 (0, 0))) (hpb : w0.heap[pb]? = some (.cells #[.int .i64 n] 3 (0, 0)))
    (heb : w0.heap[eb]? = some (.cells #[.string l, .int .i64 n, inner] 92 (0, 0))) :
    w1.cell? ⟨b, 0, none⟩ = some (.slice (some ⟨lb, 0, none⟩) 1 lc) ∧ w1.cell? ⟨b, 1, none⟩ = some (.slice (some ⟨pb, 0, none⟩) 1 pc) ∧ w1.cell? ⟨lb, 0, none⟩ = some (.string l) ∧ w1.cell? ⟨pb, 0, none⟩ = some (.int .i64 n) ∧
      w1.cell? ⟨eb, 0, none⟩ = some (.string l) ∧ w1.cell? ⟨eb, 1, none⟩ = some (.int .i64 n) ∧ w1.cell? ⟨eb, 2, none⟩ = some inner ∧ New w0 w1 := by
  have g : ∀ {i : Nat} {c : Array Value} {T : TypeId}, w0.heap[i]? = some (.cells c T (0, 0)) → w1.heap[i]? = some (.cells c T (0, 0)) := fun {i c T} h => by
    have := lt_of_block h
    rw [f.block i (by simp; omega) (by omega)]; exact (block_alloc this).trans h
  exact ⟨cell_of_block (g hb) 0, cell_of_block (g hb) 1, cell_of_block (g hlb) 0, cell_of_block (g hpb) 0, cell_of_block (g heb) 0, cell_of_block (g heb) 1, cell_of_block (g heb) 2,
    ((Fr.refl (fun _ => False) _).alloc o).drew.then f (fun i hi e => by omega)⟩

set_option maxRecDepth 100000 in
set_option maxHeartbeats 4000000 in
theorem same_1 (v f : Value) (l : ByteArray) (n k : Int) (w : World) (hg : Laid w) (hv : ErrIs w v [(l, n)] k) (hf : FailIs w f l n k) (h1 : 1 ≤ k) (h2 : k ≤ 10) :
    Calls Tryd.prog 12 #[v, f] w fun e w' => e = .returned (.bool true) ∧ New w w' := by
  obtain ⟨b, lb, pb, lc, pc, rfl, hb, hlb, hpb⟩ := id hf
  obtain ⟨eb, inner, rfl, heb, rfl⟩ := id hv
  have c0 : w.cell? ⟨b, 0, none⟩ = some (.slice (some ⟨lb, 0, none⟩) 1 lc) := cell_of_block hb 0
  have c1 : w.cell? ⟨b, 1, none⟩ = some (.slice (some ⟨pb, 0, none⟩) 1 pc) := cell_of_block hb 1
  have c2 : w.cell? ⟨b, 2, none⟩ = some (.int .i64 k) := cell_of_block hb 2
  have HV := Lib.hid hv
  have HF := Lib.hid hf
  clear hv hf hb hlb hpb heb
  go_enter Tryd.func12, Tryd.ntmps12
  go_wp2_with fail
  go_quiet ((go_at_call 38; exact Calls.quiet_of_same (kind_1 _ l n k _ HV.out h1 h2)))
  go_wp2_with fail
  have f0 : New w (w.drewN nq) := (Fr.refl _ _).drewN nq
  generalize w.drewN nq = w0 at f0 ⊢
  have hf0 := HF.out.new f0
  have hv0 := HV.out.new f0
  have hg0 := hg.keep f0 id
  clear c0 c1 c2 HV HF hg
  obtain ⟨b', lb', pb', lc', pc', e1, hb, hlb, hpb⟩ := hf0
  obtain ⟨eb', inner, e2, heb, rfl⟩ := hv0
  cases e1
  cases e2
  have d0 : w0.cell? ⟨b, 0, none⟩ = some (.slice (some ⟨lb', 0, none⟩) 1 lc') := cell_of_block hb 0
  have l1 := lt_of_block hb
  have hA := as_hit eb w0.heap.size (.pointer none) (w0.alloc (.cells #[.pointer none] 88)).drew (hg0.keep ((Fr.refl (fun _ => False) _).alloc _).drew id) (by simp) (by simp)
  obtain ⟨p1, p2, p3, p4, p5, p6, _, _⟩ := same_facts (Fr.refl (· = w0.heap.size) (w0.alloc (.cells #[.pointer none] 88)).drew) hb hlb hpb heb
  have HA := Lib.hid hA
  have HB := Lib.hid hb
  have HL := Lib.hid hlb
  have HP := Lib.hid hpb
  have HE := Lib.hid heb
  clear hA hb hlb hpb heb
  refine wp_loop_rounds 2 ?_
  rw [rounds_succ]
  go_wp2_with fail
  refine regStart (by kernel_rfl) ?_
  refine wpAnyH_take (i := 0) (v := ?_) rfl (by kernel_rfl) (by kernel_rfl) (by kernel_rfl) (fun _ _ _ h => h) (Or.inl ⟨by rfl, ?_⟩) trivial ?_
  rotate_left
  · intro w _; go_simp; rfl
  refine wpAnyH_take (i := 1) (v := ?_) rfl (by kernel_rfl) (by kernel_rfl) (by kernel_rfl) (fun _ _ _ h => h) (Or.inl ⟨by rfl, ?_⟩) trivial ?_
  rotate_left
  · intro w _; go_simp; rfl
  refine regBarrier (i := 2) (by kernel_rfl) rfl (by rfl) (fun K hK => ?_)
  go_simp
  refine HA.out.mono ?_
  rintro e w1 ⟨rfl, ht, hf, hfr⟩
  obtain ⟨g1, g2, g3, g4, g5, g6, g7, g8⟩ := same_facts hfr HB.out HL.out HP.out HE.out
  clear hfr hf p1 p2 p3 p4 p5 p6
  refine hK.out _ _ ?_
  clear hK K
  refine regRest 3 (by kernel_rfl) (by rfl) (by kernel_rfl) ?_
  simp only [List.drop_succ_cons, List.drop_zero]
  repeat (first | go_big_quiet_step (fail) | quiet_step (fail))
  refine wpQuiet_nil ?_
  rintro _ ⟨m1, rfl⟩
  have F2 : New w (w1.drewN m1) := (f0.trans g8).drewN m1
  have G2 : Laid (w1.drewN m1) := hg0.keep (g8.drewN m1) id
  have q1 : (w1.drewN m1).cell? ⟨b, 0, none⟩ = some (.slice (some ⟨lb', 0, none⟩) 1 lc') := g1
  have q7 : (w1.drewN m1).cell? ⟨eb, 2, none⟩ = some (.iface 55 (.int .i64 k)) := g7
  have qt : (w1.drewN m1).cell? ⟨w0.heap.size, 0, none⟩ = some (.pointer (some ⟨eb, 0, none⟩)) := ht
  have FH := Lib.hid F2
  generalize w1.drewN m1 = w2 at q1 q7 qt FH G2 ⊢
  have GH := Lib.hid G2
  clear F2 G2 g1 g2 g3 g4 g5 g6 g7 g8 ht HA HB HL HP HE d0 f0 hg0
  go_wp2_with fail
  rw [rounds_succ]
  go_wp2_with (go_at_call 39; refine (as_miss k _ _ (GH.out.keep ((Fr.refl (fun _ => False) _).alloc _) id)).mono ?_; rintro e w3 ⟨rfl, hf3⟩)
  go_ret
  exact ⟨rfl, (FH.out.alloc _).trans hf3⟩

end Go.Proofs.YtngpcalgjaglmaaDoor
