/- A block is given back. -/
import Derived.Test.YtlmjogfjhngcoaaDoorAllocC
import Derived.Deep.DeepAppendRoom
namespace Go.Proofs.YtlmjogfjhngcoaaDoor
open Go.RowKit

/-- What Get answers and leaves, in all. -/
theorem get_any (ab mb cb wb : Nat) (v : Value) (F T : Int) (l : List Bk) (ws : List Nat) (n W : Int) (w : World) (h : AM w ab mb cb wb v F T l ws) (hfw : l.length < 100000) :
    Calls Tryd.prog 11 #[.pointer (some ⟨ab, 0, none⟩), .int .i64 n, .int .i64 W] w fun e w' => ∃ x v', e = .returned (.tuple #[.int .i64 (if getE F T l ws n W = none then gotP F T l n else 0), x]) ∧ Tells w' x (getE F T l ws n W) ∧
      (if getE F T l ws n W = none then AM w' ab mb cb wb v' F T (gotL F T l n W) (fill ws (gotP F T l n).toNat n.toNat W.toNat) else v' = v ∧ AM w' ab mb cb wb v F T l ws) ∧
      Fr (fun k => getE F T l ws n W = none ∧ OwnA ab mb cb wb v k) w w' ∧ (∀ k, v'.ownBlock = some k → v.ownBlock = some k ∨ w.heap.size ≤ k) := by
  by_cases hb : badArg n W
  · rw [getE_bad hb]
    refine (get_bad ab n W w hb).mono ?_
    rintro e w' ⟨x, rfl, hx, hn⟩
    exact ⟨x, v, by rw [if_neg (by simp)], hx, by rw [if_neg (by simp)]; exact ⟨rfl, h.new hn⟩, hn.mono (fun _ _ h => h.elim), fun k hk => .inl hk⟩
  · cases hi : getI F T l n with
    | none =>
      rw [getE_none hb hi]
      refine (get_none ab mb v F T l n W w h.a hb hi).mono ?_
      rintro e w' ⟨x, rfl, hx, hn⟩
      exact ⟨x, v, by rw [if_neg (by simp)], hx, by rw [if_neg (by simp)]; exact ⟨rfl, h.new hn⟩, hn.mono (fun _ _ h => h.elim), fun k hk => .inl hk⟩
    | some i =>
      have hP : gotP F T l n = endA F l i := by unfold gotP; rw [hi]
      have hL : gotL F T l n W = insA l i ⟨endA F l i, n, W⟩ := by unfold gotL; rw [hi]
      rw [getE_some hb hi, hP, hL]
      refine (get_some ab mb cb wb v F T l ws n W i w h hb hi hfw).mono ?_
      rintro e w' ⟨x, v', rfl, hx, ha, hf, ho⟩
      have hiff : (inL alL (endA F l i) memL (mapErr ws (endA F l i) n W) = none) = (mapErr ws (endA F l i) n W = none) := by
        unfold inL
        cases mapErr ws (endA F l i) n W <;> simp
      simp only [hiff]
      exact ⟨x, v', rfl, hx, ha, hf, ho⟩

theorem Room.takeOwn {w : World} {g cap i : Nat} {L : List Bk} (h : Room w g cap L) (hi : i ≤ L.length) : w.ownsRow 0 43 3 (.slice (some ⟨g, 0, none⟩) i cap) i ((L.take i).flatMap bC) := by
  obtain ⟨cur, h1, h2, h3⟩ := h.ex
  have hl := h.le
  refine ⟨by rw [len_flatMap bC 3 bC_len, List.length_take, Nat.min_eq_left hi], .inr ⟨g, cap, cur, rfl, Nat.zero_le _, h1, by omega, hl.2, h2, ?_⟩⟩
  rw [← flat_take' bC 3 bC_len, ← h3, List.take_take, Nat.min_eq_left (Nat.mul_le_mul_right 3 hi)]
theorem erase_split (l : List Bk) (i : Nat) : l.take i ++ l.drop (i + 1) = l.eraseIdx i := (List.eraseIdx_eq_take_drop_succ l i).symm

/-- What Put answers where a block begins, and what it leaves. -/
def PutIt (w : World) (ab mb cb wb : Nat) (v : Value) (F T : Int) (l : List Bk) (ws : List Nat) (p : Int) (i : Nat) (b : Bk) (oe : Option (Int × Int)) (e : Ending) (w' : World) : Prop :=
  ∃ x v', e = .returned x ∧ Tells w' x (inL alL p memL oe) ∧ AM w' ab mb cb wb v' F T (l.eraseIdx i) (if oe = none then fill ws b.pos.toNat b.num.toNat 0 else ws) ∧ Fr (OwnA ab mb cb wb v) w w' ∧ v'.ownBlock = v.ownBlock

set_option maxRecDepth 100000 in
set_option maxHeartbeats 2000000 in
theorem put_none (ab mb : Nat) (v : Value) (F T : Int) (l : List Bk) (p : Int) (w : World) (h : AllocRep w ab mb v F T l) (hi : posI l p = none) :
    Calls Tryd.prog 13 #[.pointer (some ⟨ab, 0, none⟩), .int .i64 p] w fun e w' => ∃ x, e = .returned x ∧ Tells w' x (some ([(alL, p)], 4)) ∧ New w w' := by
  have hno := posI_none hi
  have c3 : w.cell? ⟨ab, 3, none⟩ = some v := cell_of_block h.hd 3
  have la := lt_of_block h.hd
  have hfew := h.few
  obtain ⟨ao, ca, rfl, _⟩ := owned_form h.own
  have hcap := doc_cap h.own
  have hat := fun (k : Nat) (b : Bk) (hb : l[k]? = some b) => flat_at bC 3 bC_len h.own hb (by omega)
  obtain ⟨N, hN⟩ : ∃ N, l.length = N := ⟨_, rfl⟩
  rw [hN] at c3 hfew hcap
  have HAT := Lib.hid hat
  have HN := Lib.hid hN
  have HNO := Lib.hid hno
  clear h hi hno hat hN
  go_enter Tryd.func13, Tryd.ntmps13
  go_wp2_with fail
  go_loopw [13] (fun j wr => ∃ k : Nat, k ≤ N ∧ j = .int .i64 k ∧ New w wr) (fun j _ => N - (intOf j).toNat)
  case atStart => exact ⟨0, by omega, rfl, Fr.refl _ _⟩
  case round =>
    obtain ⟨k, hk, rfl, hn⟩ := hrel
    have HNW := Lib.hid hn
    by_cases hlt : k < N
    · obtain ⟨b, hb⟩ : ∃ b, l[k]? = some b := ⟨l[k]'(by rw [HN.out]; exact hlt), by simp⟩
      obtain ⟨g, rfl, hg, hc⟩ := HAT.out k b hb
      have x0 : wr.cell? ⟨g, k * 3, none⟩ = some (.int .i64 b.pos) := (hn.cell hg id _).trans (hc 0 _ rfl)
      have x1 : wr.cell? ⟨g, k * 3 + 1, none⟩ = some (.int .i64 b.num) := (hn.cell hg id _).trans (hc 1 _ rfl)
      have x2 : wr.cell? ⟨g, k * 3 + 2, none⟩ = some (.int .i64 b.wid) := (hn.cell hg id _).trans (hc 2 _ rfl)
      have t1 : (b.pos != p) = true := by rw [bne_iff_ne]; exact HNO.out b (List.mem_of_getElem? hb)
      have q1 : (0 : Int) ≤ (k : Int) := by omega
      have q2 : (k : Int) < (N : Int) := by omega
      clear hb hc hn
      go_wp2_with fail
      go_roundw
      case rel => exact ⟨k + 1, by omega, by go_num, HNW.out.alloc _⟩
      case measure => simp [intOf]; omega
    · clear hn
      go_wp2_with (go_at_call 34; refine (afail_any _ _ _ (by omega) (by omega)).mono ?_; rintro e w' ⟨x, rfl, he, hn⟩)
      go_ret
      exact ⟨_, rfl, he, HNW.out.trans hn⟩

end Go.Proofs.YtlmjogfjhngcoaaDoor
