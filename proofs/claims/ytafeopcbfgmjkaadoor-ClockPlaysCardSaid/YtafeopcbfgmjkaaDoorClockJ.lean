/- The document's clock: a tick. -/
import Derived.Test.YtafeopcbfgmjkaaDoorClockI
import Derived.Test.YtafeopcbfgmjkaaDoorReg
namespace Go.Proofs.YtafeopcbfgmjkaaDoor
open Go.RowKit

theorem own_own {w : World} {b1 b2 s1 s2 n1 n2 : Nat} {e1 e2 : TypeId} {v1 v2 : Value} {x1 x2 : List Value} (h1 : w.ownsRow b1 e1 s1 v1 n1 x1) (h2 : w.ownsRow b2 e2 s2 v2 n2 x2) (hT : e1 ≠ e2) {k : Nat} (hk : v1.ownBlock = some k) : v2.ownBlock ≠ some k := by
  rcases h1.2 with ⟨rfl, _⟩ | ⟨g, cap, cur, rfl, _, hg, _⟩
  · cases hk
  · obtain rfl : g = k := by simpa [Value.ownBlock] using hk
    intro e
    exact own_ne h2 hg hT _ e rfl
/-- A tick, so far: k were taken. -/
structure TickD (w : World) (rb : Nat) (v : Value) (S : List Th) (last now B : Nat) (k : Nat) (vl v' : Value) (wr : World) : Prop where
  all : ∀ t ∈ S.take k, t.d ≤ now
  le : k ≤ S.length
  row : wr.ownsRow B 25 1 vl k (u64c ((S.take k).map Th.what))
  rep : DocRep wr rb v' (S.drop k) last now
  own : ∀ b, v'.ownBlock = some b → v.ownBlock = some b ∨ B ≤ b
  fr : Fr (· = rb) w wr

set_option maxRecDepth 100000 in
set_option maxHeartbeats 4000000 in
theorem rtick_any (rb : Nat) (v : Value) (S : List Th) (last now : Nat) (w : World) (h : DocRep w rb v S last now) (hn : now < 100000) :
    Calls Tryd.prog 18 #[.pointer (some ⟨rb, 0, none⟩)] w fun e w' => ∃ vl v', e = .returned vl ∧ w'.ownsRow w.heap.size 25 1 vl (due S (now + 1)).length (u64c ((due S (now + 1)).map Th.what)) ∧ DocRep w' rb v' (rest S (now + 1)) last (now + 1) ∧ (∀ k, v'.ownBlock = some k → v.ownBlock = some k ∨ w.heap.size ≤ k) ∧ Fr (· = rb) w w' := by
  have c0 : w.cell? ⟨rb, 0, none⟩ = some (.int .u64 now) := cell_of_block h.hd 0
  have z0 := free_of_block h.hd 0
  have l1 := lt_of_block h.hd
  obtain ⟨i0, hi, hz0, hz1, hz2⟩ := info_parts u64Info
  have HNE := Lib.hid (own_ne h.own h.hd (by decide))
  have H := Lib.hid h
  clear h
  go_enter Tryd.func18, Tryd.ntmps18
  go_wp2_with fail
  rw [show (now : Int) + 1 = ((now + 1 : Nat) : Int) by omega]
  have hst : TickD w rb v S last (now + 1) w.heap.size 0 (.slice none 0 0) v (w.setCell ⟨rb, 0, none⟩ (.int .u64 ((now + 1 : Nat) : Int))) := by
    have f : Fr (· = rb) w (w.setCell ⟨rb, 0, none⟩ (.int .u64 ((now + 1 : Nat) : Int))) := (Fr.refl (· = rb) w).setCell (fun _ => rfl) _
    exact ⟨fun t ht => by simp at ht, by omega, World.ownsRow_nil _ _ _ _, ⟨block_setCell H.out.hd _, own_kept H.out.own f (fun k hk e => HNE.out k hk e), by have := H.out.few; rw [List.drop_zero]; omega⟩, fun _ h => .inl h, f⟩
  have HST := Lib.hid hst
  clear hst c0 z0
  go_loopg [3] (S.length + 1) (fun gg vl wr => ∃ k v', gg = S.length - k + 1 ∧ TickD w rb v S last (now + 1) w.heap.size k vl v' wr)
  case atStart => exact ⟨0, v, by omega, HST.out⟩
  case round =>
    clear HST
    obtain ⟨k, v', rfl, hr⟩ := hrel
    have HR := Lib.hid hr
    have c0 : wr.cell? ⟨rb, 0, none⟩ = some (.int .u64 ((now + 1 : Nat) : Int)) := cell_of_block hr.rep.hd 0
    have l2 := lt_of_block hr.rep.hd
    have hsz := hr.fr.size
    have hcase : (∃ t r, S.drop k = t :: r ∧ t.d ≤ now + 1) ∨ (∀ t, (S.drop k).head? = some t → now + 1 < t.d) := by
      cases hd : S.drop k with
      | nil => right; intro t ht; simp at ht
      | cons t r =>
        by_cases e : t.d ≤ now + 1
        · exact .inl ⟨t, r, rfl, e⟩
        · right; intro t' ht'; obtain rfl : t = t' := by simpa using ht'
          omega
    clear hr
    rcases hcase with ⟨t, r, hSd, htd⟩ | hnone
    · have hkl : k < S.length := by
        rcases Nat.lt_or_ge k S.length with h | h
        · exact h
        · rw [List.drop_eq_nil_of_le h] at hSd; cases hSd
      have hrep := HR.out.rep
      rw [hSd] at hrep
      have HPOP := Lib.hid (fun w' (n : New wr w') => hrpop_ok rb v' t r last (now + 1) (now + 1) w' (hrep.new n) htd)
      have HSD := Lib.hid hSd
      have HTD := Lib.hid htd
      have hkb : k < 10000 := by have := H.out.few; omega
      clear hSd htd hrep
      go_wp2_with fail
      have f0 : New wr wr.drew := (Fr.refl _ _).drew
      refine heldStart (fun W => W.cell? ⟨rb, 0, none⟩ = some (.int .u64 ((now + 1 : Nat) : Int))) (by kernel_rfl) ?_
      have HP := Lib.hid (HPOP.out _ f0)
      have F0 := Lib.hid f0
      have hS : (fun W : World => W.cell? ⟨rb, 0, none⟩ = some (.int .u64 ((now + 1 : Nat) : Int))) wr.drew := c0
      generalize wr.drew = W0 at hS HP F0 ⊢
      clear f0 c0
      refine wpAnyH_take (i := 0) (v := ?_) rfl (by kernel_rfl) (by kernel_rfl) (by kernel_rfl) (fun _ _ _ h => h) (Or.inl ⟨by rfl, ?_⟩) hS ?_
      rotate_left
      · intro w hSw; first | (obtain ⟨s1, s2, s3, s4, s5, s6, s7⟩ := hSw; go_simp; rfl) | (obtain ⟨s1, s2, s3⟩ := hSw; go_simp; rfl) | (obtain ⟨s1, s2⟩ := hSw; go_simp; rfl) | (have s1 := hSw; go_simp; rfl)
      go_simp
      refine wpAnyH_take (i := 1) (v := ?_) rfl (by kernel_rfl) (by kernel_rfl) (by kernel_rfl) (fun _ _ _ h => h) (Or.inl ⟨by rfl, ?_⟩) hS ?_
      rotate_left
      · intro w hSw; first | (obtain ⟨s1, s2, s3, s4, s5, s6, s7⟩ := hSw; go_simp; rfl) | (obtain ⟨s1, s2, s3⟩ := hSw; go_simp; rfl) | (obtain ⟨s1, s2⟩ := hSw; go_simp; rfl) | (have s1 := hSw; go_simp; rfl)
      go_simp
      refine wpAnyH_take (i := 2) (v := ?_) rfl (by kernel_rfl) (by kernel_rfl) (by kernel_rfl) (fun _ _ _ h => h) (Or.inl ⟨by rfl, ?_⟩) hS ?_
      rotate_left
      · intro w hSw; first | (obtain ⟨s1, s2, s3, s4, s5, s6, s7⟩ := hSw; go_simp; rfl) | (obtain ⟨s1, s2, s3⟩ := hSw; go_simp; rfl) | (obtain ⟨s1, s2⟩ := hSw; go_simp; rfl) | (have s1 := hSw; go_simp; rfl)
      go_simp
      refine wpAnyH_take (i := 3) (v := ?_) rfl (by kernel_rfl) (by kernel_rfl) (by kernel_rfl) (fun _ _ _ h => h) (Or.inl ⟨by rfl, ?_⟩) hS ?_
      rotate_left
      · intro w hSw; first | (obtain ⟨s1, s2, s3, s4, s5, s6, s7⟩ := hSw; go_simp; rfl) | (obtain ⟨s1, s2, s3⟩ := hSw; go_simp; rfl) | (obtain ⟨s1, s2⟩ := hSw; go_simp; rfl) | (have s1 := hSw; go_simp; rfl)
      go_simp
      refine wpAnyH_take (i := 4) (v := ?_) rfl (by kernel_rfl) (by kernel_rfl) (by kernel_rfl) (fun _ _ _ h => h) (Or.inl ⟨by rfl, ?_⟩) hS ?_
      rotate_left
      · intro w hSw; first | (obtain ⟨s1, s2, s3, s4, s5, s6, s7⟩ := hSw; go_simp; rfl) | (obtain ⟨s1, s2, s3⟩ := hSw; go_simp; rfl) | (obtain ⟨s1, s2⟩ := hSw; go_simp; rfl) | (have s1 := hSw; go_simp; rfl)
      go_simp
      refine wpAnyH_take (i := 5) (v := ?_) rfl (by kernel_rfl) (by kernel_rfl) (by kernel_rfl) (fun _ _ _ h => h) (Or.inl ⟨by rfl, ?_⟩) hS ?_
      rotate_left
      · intro w hSw; first | (obtain ⟨s1, s2, s3, s4, s5, s6, s7⟩ := hSw; go_simp; rfl) | (obtain ⟨s1, s2, s3⟩ := hSw; go_simp; rfl) | (obtain ⟨s1, s2⟩ := hSw; go_simp; rfl) | (have s1 := hSw; go_simp; rfl)
      go_simp
      refine wpAnyH_take (i := 6) (v := ?_) rfl (by kernel_rfl) (by kernel_rfl) (by kernel_rfl) (fun _ _ _ h => h) (Or.inl ⟨by rfl, ?_⟩) hS ?_
      rotate_left
      · intro w hSw; first | (obtain ⟨s1, s2, s3, s4, s5, s6, s7⟩ := hSw; go_simp; rfl) | (obtain ⟨s1, s2, s3⟩ := hSw; go_simp; rfl) | (obtain ⟨s1, s2⟩ := hSw; go_simp; rfl) | (have s1 := hSw; go_simp; rfl)
      go_simp
      refine heldOne (i := 7) (by kernel_rfl) rfl (by rfl) (fun K hK => ?_)
      go_simp
      refine HP.out.mono ?_
      rintro e w2 ⟨rfl, v2, hr2, ho2, hf2⟩
      have hS2 : (fun W : World => W.cell? ⟨rb, 0, none⟩ = some (.int .u64 ((now + 1 : Nat) : Int))) w2 := cell_of_block hr2.hd 0
      have HR2 := Lib.hid hr2
      have HO2 := Lib.hid ho2
      have HF2 := Lib.hid hf2
      refine hK.out _ _ hS2 ?_
      clear hK K hr2 ho2 hf2 hS
      refine wpAnyH_take (i := 8) (v := ?_) rfl (by kernel_rfl) (by kernel_rfl) (by kernel_rfl) (fun _ _ _ h => h) (Or.inl ⟨by rfl, ?_⟩) hS2 ?_
      rotate_left
      · intro w hSw; first | (obtain ⟨s1, s2, s3, s4, s5, s6, s7⟩ := hSw; go_simp; rfl) | (obtain ⟨s1, s2, s3⟩ := hSw; go_simp; rfl) | (obtain ⟨s1, s2⟩ := hSw; go_simp; rfl) | (have s1 := hSw; go_simp; rfl)
      go_simp
      refine wpAnyH_take (i := 9) (v := ?_) rfl (by kernel_rfl) (by kernel_rfl) (by kernel_rfl) (fun _ _ _ h => h) (Or.inl ⟨by rfl, ?_⟩) hS2 ?_
      rotate_left
      · intro w hSw; first | (obtain ⟨s1, s2, s3, s4, s5, s6, s7⟩ := hSw; go_simp; rfl) | (obtain ⟨s1, s2, s3⟩ := hSw; go_simp; rfl) | (obtain ⟨s1, s2⟩ := hSw; go_simp; rfl) | (have s1 := hSw; go_simp; rfl)
      go_simp
      refine wpAnyH_take (i := 10) (v := ?_) rfl (by kernel_rfl) (by kernel_rfl) (by kernel_rfl) (fun _ _ _ h => h) (Or.inl ⟨by rfl, ?_⟩) hS2 ?_
      rotate_left
      · intro w hSw; first | (obtain ⟨s1, s2, s3, s4, s5, s6, s7⟩ := hSw; go_simp; rfl) | (obtain ⟨s1, s2, s3⟩ := hSw; go_simp; rfl) | (obtain ⟨s1, s2⟩ := hSw; go_simp; rfl) | (have s1 := hSw; go_simp; rfl)
      go_simp
      refine wpAnyH_take (i := 11) (v := ?_) rfl (by kernel_rfl) (by kernel_rfl) (by kernel_rfl) (fun _ _ _ h => h) (Or.inl ⟨by rfl, ?_⟩) hS2 ?_
      rotate_left
      · intro w hSw; first | (obtain ⟨s1, s2, s3, s4, s5, s6, s7⟩ := hSw; go_simp; rfl) | (obtain ⟨s1, s2, s3⟩ := hSw; go_simp; rfl) | (obtain ⟨s1, s2⟩ := hSw; go_simp; rfl) | (have s1 := hSw; go_simp; rfl)
      go_simp
      refine wpAnyH_take (i := 12) (v := ?_) rfl (by kernel_rfl) (by kernel_rfl) (by kernel_rfl) (fun _ _ _ h => h) (Or.inl ⟨by rfl, ?_⟩) hS2 ?_
      rotate_left
      · intro w hSw; first | (obtain ⟨s1, s2, s3, s4, s5, s6, s7⟩ := hSw; go_simp; rfl) | (obtain ⟨s1, s2, s3⟩ := hSw; go_simp; rfl) | (obtain ⟨s1, s2⟩ := hSw; go_simp; rfl) | (have s1 := hSw; go_simp; rfl)
      go_simp
      refine wpAnyH_done (by kernel_rfl) ?_ _
      clear hS2
      have HOW2 := Lib.hid (own_kept (own_kept HR.out.row F0.out (fun _ _ => id)) HF2.out (fun b hb' e => own_ne HR.out.row HR.out.rep.hd (by decide) b hb' e))
      have hs2 : w.heap.size ≤ w2.heap.size := Nat.le_trans hsz (Nat.le_trans F0.out.size HF2.out.size)
      go_wp2_with (at_builtin; go_loud (refine wpList_append_own _ rfl (.tmp 27) (.tmp 29) 35 rfl w.heap.size 25 i0 _ 1 8 Tryd.underlying35 hi hz0 hz1 hz2 rfl (by decide) _ _ _ rfl (HOW2.out.alloc _) ⟨w2.heap.size, 0, none⟩ 1 1 [.int .u64 t.what] rfl rfl (Arr.add (Arr.new _ _ _)) (by simp [Value.oneCell']) (by unfold maxLen; omega) (by omega) (by rw [World.size_alloc]; omega) ?_; intro v4 w4 hown4 hgrow4 hnil4; clear hnil4))
      have f4 : Fr (fun b => u3.ownBlock = some b) w2 w4 := ((Fr.refl _ w2).alloc _).grown hgrow4 (fun b hb' _ => hb')
      have hsdk : S.drop (k + 1) = r := by rw [← List.drop_drop, HSD.out]; rfl
      have htk : S.take (k + 1) = S.take k ++ [t] := by
        rw [List.take_add_one]
        have := HSD.out
        rw [List.drop_eq_getElem_cons hkl] at this
        rw [List.getElem?_eq_getElem hkl, (List.cons.inj this).1]; rfl
      have hrow : TickD w rb v S last (now + 1) w.heap.size (k + 1) v4 v2 w4 := by
        refine ⟨fun x hx => ?_, hkl, ?_, ?_, fun b h => .inr (Nat.le_trans (Nat.le_trans hsz F0.out.size) (HO2.out b h)), ?_⟩
        · rw [htk] at hx
          rcases List.mem_append.1 hx with hx | hx
          · exact HR.out.all x hx
          · rw [List.mem_singleton.1 hx]; exact HTD.out
        · rw [htk, List.map_append, show [t].map Th.what = [t.what] from rfl, ← u64c_snoc]; exact hown4
        · rw [hsdk]
          refine HR2.out.keep f4 (fun b hb' e => ?_)
          rcases hb' with h | h
          · exact own_ne HOW2.out HR2.out.hd (by decide) b e h
          · exact own_own HOW2.out HR2.out.own (by decide) e h
        · exact ((HR.out.fr.trans (F0.out.mono (fun _ _ h => h.elim))).trans HF2.out).then f4 (fun b hbs e => by have := (HR.out.row.lt b e).1; omega)
      have HROW := Lib.hid hrow
      clear hrow htk hsdk f4 hown4 hgrow4
      go_roundg (S.length - (k + 1) + 1)
      case measure => omega
      case rel => exact ⟨k + 1, v2, rfl, HROW.out⟩
    · have HPN := Lib.hid (fun w' (n : New wr w') => hrpop_none rb v' (S.drop k) last (now + 1) (now + 1) w' (HR.out.rep.new n) hnone)
      obtain ⟨e1, e2⟩ := tick_split HR.out.all hnone
      have HE1 := Lib.hid e1
      have HE2 := Lib.hid e2
      clear hnone e1 e2
      go_wp2_with fail
      have f0 : New wr wr.drew := (Fr.refl _ _).drew
      refine heldStart (fun W => W.cell? ⟨rb, 0, none⟩ = some (.int .u64 ((now + 1 : Nat) : Int))) (by kernel_rfl) ?_
      have HP := Lib.hid (HPN.out _ f0)
      have F0 := Lib.hid f0
      have hS : (fun W : World => W.cell? ⟨rb, 0, none⟩ = some (.int .u64 ((now + 1 : Nat) : Int))) wr.drew := c0
      generalize wr.drew = W0 at hS HP F0 ⊢
      have hl0 := Nat.lt_of_lt_of_le l2 F0.out.size
      clear f0 c0
      refine wpAnyH_take (i := 0) (v := ?_) rfl (by kernel_rfl) (by kernel_rfl) (by kernel_rfl) (fun _ _ _ h => h) (Or.inl ⟨by rfl, ?_⟩) hS ?_
      rotate_left
      · intro w hSw; first | (obtain ⟨s1, s2, s3, s4, s5, s6, s7⟩ := hSw; go_simp; rfl) | (obtain ⟨s1, s2, s3⟩ := hSw; go_simp; rfl) | (obtain ⟨s1, s2⟩ := hSw; go_simp; rfl) | (have s1 := hSw; go_simp; rfl)
      go_simp
      refine wpAnyH_take (i := 1) (v := ?_) rfl (by kernel_rfl) (by kernel_rfl) (by kernel_rfl) (fun _ _ _ h => h) (Or.inl ⟨by rfl, ?_⟩) hS ?_
      rotate_left
      · intro w hSw; first | (obtain ⟨s1, s2, s3, s4, s5, s6, s7⟩ := hSw; go_simp; rfl) | (obtain ⟨s1, s2, s3⟩ := hSw; go_simp; rfl) | (obtain ⟨s1, s2⟩ := hSw; go_simp; rfl) | (have s1 := hSw; go_simp; rfl)
      go_simp
      refine wpAnyH_take (i := 2) (v := ?_) rfl (by kernel_rfl) (by kernel_rfl) (by kernel_rfl) (fun _ _ _ h => h) (Or.inl ⟨by rfl, ?_⟩) hS ?_
      rotate_left
      · intro w hSw; first | (obtain ⟨s1, s2, s3, s4, s5, s6, s7⟩ := hSw; go_simp; rfl) | (obtain ⟨s1, s2, s3⟩ := hSw; go_simp; rfl) | (obtain ⟨s1, s2⟩ := hSw; go_simp; rfl) | (have s1 := hSw; go_simp; rfl)
      go_simp
      refine wpAnyH_take (i := 3) (v := ?_) rfl (by kernel_rfl) (by kernel_rfl) (by kernel_rfl) (fun _ _ _ h => h) (Or.inl ⟨by rfl, ?_⟩) hS ?_
      rotate_left
      · intro w hSw; first | (obtain ⟨s1, s2, s3, s4, s5, s6, s7⟩ := hSw; go_simp; rfl) | (obtain ⟨s1, s2, s3⟩ := hSw; go_simp; rfl) | (obtain ⟨s1, s2⟩ := hSw; go_simp; rfl) | (have s1 := hSw; go_simp; rfl)
      go_simp
      refine wpAnyH_take (i := 4) (v := ?_) rfl (by kernel_rfl) (by kernel_rfl) (by kernel_rfl) (fun _ _ _ h => h) (Or.inl ⟨by rfl, ?_⟩) hS ?_
      rotate_left
      · intro w hSw; first | (obtain ⟨s1, s2, s3, s4, s5, s6, s7⟩ := hSw; go_simp; rfl) | (obtain ⟨s1, s2, s3⟩ := hSw; go_simp; rfl) | (obtain ⟨s1, s2⟩ := hSw; go_simp; rfl) | (have s1 := hSw; go_simp; rfl)
      go_simp
      refine wpAnyH_take (i := 5) (v := ?_) rfl (by kernel_rfl) (by kernel_rfl) (by kernel_rfl) (fun _ _ _ h => h) (Or.inl ⟨by rfl, ?_⟩) hS ?_
      rotate_left
      · intro w hSw; first | (obtain ⟨s1, s2, s3, s4, s5, s6, s7⟩ := hSw; go_simp; rfl) | (obtain ⟨s1, s2, s3⟩ := hSw; go_simp; rfl) | (obtain ⟨s1, s2⟩ := hSw; go_simp; rfl) | (have s1 := hSw; go_simp; rfl)
      go_simp
      refine wpAnyH_take (i := 6) (v := ?_) rfl (by kernel_rfl) (by kernel_rfl) (by kernel_rfl) (fun _ _ _ h => h) (Or.inl ⟨by rfl, ?_⟩) hS ?_
      rotate_left
      · intro w hSw; first | (obtain ⟨s1, s2, s3, s4, s5, s6, s7⟩ := hSw; go_simp; rfl) | (obtain ⟨s1, s2, s3⟩ := hSw; go_simp; rfl) | (obtain ⟨s1, s2⟩ := hSw; go_simp; rfl) | (have s1 := hSw; go_simp; rfl)
      go_simp
      refine heldOne (i := 7) (by kernel_rfl) rfl (by rfl) (fun K hK => ?_)
      go_simp
      refine HP.out.mono ?_
      rintro e w2 ⟨rfl, hf2⟩
      have hS2 : (fun W : World => W.cell? ⟨rb, 0, none⟩ = some (.int .u64 ((now + 1 : Nat) : Int))) w2 := (hf2.cell hl0 id 0).trans hS
      have HF2 := Lib.hid hf2
      refine hK.out _ _ hS2 ?_
      clear hK K hf2 hS
      refine wpAnyH_take (i := 8) (v := ?_) rfl (by kernel_rfl) (by kernel_rfl) (by kernel_rfl) (fun _ _ _ h => h) (Or.inl ⟨by rfl, ?_⟩) hS2 ?_
      rotate_left
      · intro w hSw; first | (obtain ⟨s1, s2, s3, s4, s5, s6, s7⟩ := hSw; go_simp; rfl) | (obtain ⟨s1, s2, s3⟩ := hSw; go_simp; rfl) | (obtain ⟨s1, s2⟩ := hSw; go_simp; rfl) | (have s1 := hSw; go_simp; rfl)
      go_simp
      refine wpAnyH_take (i := 9) (v := ?_) rfl (by kernel_rfl) (by kernel_rfl) (by kernel_rfl) (fun _ _ _ h => h) (Or.inl ⟨by rfl, ?_⟩) hS2 ?_
      rotate_left
      · intro w hSw; first | (obtain ⟨s1, s2, s3, s4, s5, s6, s7⟩ := hSw; go_simp; rfl) | (obtain ⟨s1, s2, s3⟩ := hSw; go_simp; rfl) | (obtain ⟨s1, s2⟩ := hSw; go_simp; rfl) | (have s1 := hSw; go_simp; rfl)
      go_simp
      refine wpAnyH_take (i := 10) (v := ?_) rfl (by kernel_rfl) (by kernel_rfl) (by kernel_rfl) (fun _ _ _ h => h) (Or.inl ⟨by rfl, ?_⟩) hS2 ?_
      rotate_left
      · intro w hSw; first | (obtain ⟨s1, s2, s3, s4, s5, s6, s7⟩ := hSw; go_simp; rfl) | (obtain ⟨s1, s2, s3⟩ := hSw; go_simp; rfl) | (obtain ⟨s1, s2⟩ := hSw; go_simp; rfl) | (have s1 := hSw; go_simp; rfl)
      go_simp
      refine wpAnyH_take (i := 11) (v := ?_) rfl (by kernel_rfl) (by kernel_rfl) (by kernel_rfl) (fun _ _ _ h => h) (Or.inl ⟨by rfl, ?_⟩) hS2 ?_
      rotate_left
      · intro w hSw; first | (obtain ⟨s1, s2, s3, s4, s5, s6, s7⟩ := hSw; go_simp; rfl) | (obtain ⟨s1, s2, s3⟩ := hSw; go_simp; rfl) | (obtain ⟨s1, s2⟩ := hSw; go_simp; rfl) | (have s1 := hSw; go_simp; rfl)
      go_simp
      refine wpAnyH_take (i := 12) (v := ?_) rfl (by kernel_rfl) (by kernel_rfl) (by kernel_rfl) (fun _ _ _ h => h) (Or.inl ⟨by rfl, ?_⟩) hS2 ?_
      rotate_left
      · intro w hSw; first | (obtain ⟨s1, s2, s3, s4, s5, s6, s7⟩ := hSw; go_simp; rfl) | (obtain ⟨s1, s2, s3⟩ := hSw; go_simp; rfl) | (obtain ⟨s1, s2⟩ := hSw; go_simp; rfl) | (have s1 := hSw; go_simp; rfl)
      go_simp
      refine wpAnyH_done (by kernel_rfl) ?_ _
      clear hS2
      go_wp2
      go_ret
      have hnew := F0.out.trans HF2.out
      have hr := HR.out.row
      rw [HE1.out] at hr
      have hlen : (due S (now + 1)).length = k := by rw [← HE1.out, List.length_take]; have := HR.out.le; omega
      refine ⟨u3, v', rfl, by rw [hlen]; exact own_kept hr hnew (fun _ _ => id), by rw [← HE2.out]; exact HR.out.rep.new hnew, HR.out.own, HR.out.fr.trans (hnew.mono (fun _ _ h => h.elim))⟩

end Go.Proofs.YtafeopcbfgmjkaaDoor
