/- A step of both. -/
import Derived.Test.YtngpcalgjaglmaaDoorVmX
import Derived.Test.YtngpcalgjaglmaaDoorVmH
import Derived.Test.YtngpcalgjaglmaaDoorErrE
namespace Go.Proofs.YtngpcalgjaglmaaDoor
open Go.RowKit

theorem ErrIs.keepAtV {w w' : World} {S : Nat → Prop} (f : Fr S w w') (hs : ∀ b l, w.cell? ⟨b, 0, none⟩ = some (.string l) → ¬ S b) : ∀ {v : Value} {r : List (ByteArray × Int)} {k : Int}, ErrIs w v r k → ErrIs w' v r k
  | _, [], _, h => h
  | _, (_, _) :: _, _, ⟨b, inner, hv, hb, hr⟩ => ⟨b, inner, hv, by rw [f.block b (lt_of_block hb) (hs b _ ((cell_of_block hb 0).trans rfl))]; exact hb, ErrIs.keepAtV f hs hr⟩
theorem Tells.keepAtV {w w' : World} {S : Nat → Prop} (f : Fr S w w') (hs : ∀ b l, w.cell? ⟨b, 0, none⟩ = some (.string l) → ¬ S b) {v : Value} : ∀ {o : ErrL}, Tells w v o → Tells w' v o
  | none, h => h
  | some (_, _), h => ⟨ErrIs.keepAtV f hs h.1, h.2⟩
/-- The document's frame and memory are no errors. -/
theorem rstep_noAt {w : World} {gb rb rwb rhb : Nat} {u : Value} {F : Fm} {cs ws : List Nat} {ct : Nat} (hg : FmAt w gb 0 u F) (hm : RefRep w rb rwb rhb cs ws ct) (h1 : 0 < ws.length) : ∀ b l, w.cell? ⟨b, 0, none⟩ = some (.string l) → ¬ (b = gb ∨ b = rb ∨ b = rhb) := by
  rintro b l h (rfl | rfl | rfl)
  · rw [hg.fr.pc] at h; cases h
  · rw [hm.hd.cell 0 _ rfl] at h; cases h
  · have hl := hm.len.1
    have hx : cs[0]? = some cs[0] := by simp
    rw [at_map hm.holds hx] at h; cases h

theorem vstep_few (rs : List (List Int)) (F : Fm) (cs ws : List Nat) (ct : Nat) : Few (vstep rs F cs ws ct).2.1 := by
  unfold vstep
  split
  · split
    · trivial
    · split
      · trivial
      · split
        · trivial
        · split
          · exact few_in _ _ _ _
          · trivial
  · trivial
theorem vstep_ct (rs : List (List Int)) (F : Fm) (cs ws : List Nat) (ct : Nat) : (vstep rs F cs ws ct).2.2.2.2 ≤ ct + 1 := by
  unfold vstep accN
  split
  · split
    · exact Nat.le_succ _
    · split
      · exact Nat.le_succ _
      · split
        · exact Nat.le_succ _
        · split
          · show (if _ then _ else _) ≤ _
            split
            · exact Nat.le_succ _
            · exact Nat.le_refl _
          · exact Nat.le_succ _
  · exact Nat.le_succ _
/-- Both frames and both memories are alike again behind a step of both. -/
theorem pair_step {w w1 w2 : World} {fb gb b cb wb rb rwb rhb B : Nat} {v u : Value} {F : Fm} {cs ws : List Nat} {ct : Nat} {R : Int × ErrL × Fm × List Nat × Nat} {e1 e2 : Ending} (hF : Fms w fb gb v u F) (hS : Sync w b cb wb rb rwb rhb cs ws ct)
    (h1 : StepRes w fb b cb wb v ws (cnt ws) R e1 w1) (h2 : RStepRes w1 gb rb rwb rhb u ws R e2 w2) (h6 : ∀ k, Six b cb wb rb rwb rhb k → k < B) (hB : B ≤ fb ∧ B ≤ gb) (hv : ∀ k, v.ownBlock = some k → B ≤ k) (hu : ∀ k, u.ownBlock = some k → B ≤ k) (hBw : B ≤ w.heap.size) :
    ∃ v' u', Fms w2 fb gb v' u' R.2.2.1 ∧ Sync w2 b cb wb rb rwb rhb R.2.2.2.1 ws R.2.2.2.2 ∧ (∀ k, v'.ownBlock = some k → B ≤ k) ∧ (∀ k, u'.ownBlock = some k → B ≤ k) ∧ Fr (fun k => k = fb ∨ k = gb ∨ Six b cb wb rb rwb rhb k) w w2 := by
  obtain ⟨v', hf1, hv1⟩ := h1.fm
  obtain ⟨u', hg2, hu2⟩ := h2.fm
  have b0 := h6 b (.inl (.inl rfl))
  have b1 := h6 cb (.inl (.inr (.inl rfl)))
  have b2 := h6 wb (.inl (.inr (.inr rfl)))
  have b3 := h6 rb (.inr (.inl rfl))
  have b4 := h6 rwb (.inr (.inr (.inl rfl)))
  have b5 := h6 rhb (.inr (.inr (.inr rfl)))
  have hfl := hF.f.fr.lt
  have hgl := hF.g.fr.lt
  have hvl : ∀ k, v'.ownBlock = some k → k < w1.heap.size := fun k hk => (hf1.own.lt k hk).2
  have hul : ∀ k, u.ownBlock = some k → k < w.heap.size := fun k hk => (hF.g.own.lt k hk).2
  have hs1 := h1.fr.size
  have hf2 : FmAt w2 fb 0 v' R.2.2.1 := hf1.keep h2.fr (fun e => by
    rcases e with e | e | e
    · exact hF.ne e
    · omega
    · omega) (fun k hk e => by
      rcases e with e | e | e
      · rcases hv1 k hk with h | h
        · exact hF.vg (by rw [h, e])
        · omega
      · rcases hv1 k hk with h | h
        · have := hv k h; omega
        · omega
      · rcases hv1 k hk with h | h
        · have := hv k h; omega
        · omega)
  refine ⟨v', u', ⟨hf2, hg2, hF.ne, fun e => ?_, fun e => ?_, fun k hk e => ?_⟩, ⟨h1.mem.keep h2.fr ?_ ?_ ?_, h2.mem, hS.ab, hS.ac, hS.aw⟩, fun k hk => ?_, fun k hk => ?_, ?_⟩
  · rcases hv1 gb e with h | h
    · exact hF.vg h
    · omega
  · rcases hu2 fb e with h | h
    · exact hF.uf h
    · omega
  · have := hvl k hk
    rcases hu2 k e with h | h
    · rcases hv1 k hk with h' | h'
      · exact hF.vu k h' h
      · have := hul k h; omega
    · omega
  · rintro (e | e | e)
    · omega
    · exact hS.ab.1 e
    · exact hS.ab.2.2 e
  · rintro (e | e | e)
    · omega
    · exact hS.ac.1 e
    · exact hS.ac.2.2 e
  · rintro (e | e | e)
    · omega
    · exact hS.aw.1 e
    · exact hS.aw.2.2 e
  · rcases hv1 k hk with h | h
    · exact hv k h
    · omega
  · rcases hu2 k hk with h | h
    · exact hu k h
    · omega
  · refine (h1.fr.mono (T := fun k => k = fb ∨ k = gb ∨ Six b cb wb rb rwb rhb k) (fun k _ h => ?_)).trans (h2.fr.mono (fun k _ h => ?_))
    · rcases h with h | h | h
      · exact .inl h
      · exact .inr (.inr (.inl (.inl h)))
      · exact .inr (.inr (.inl (.inr (.inl h))))
    · rcases h with h | h | h
      · exact .inr (.inl h)
      · exact .inr (.inr (.inr (.inl h)))
      · exact .inr (.inr (.inr (.inr (.inr h))))

end Go.Proofs.YtngpcalgjaglmaaDoor
