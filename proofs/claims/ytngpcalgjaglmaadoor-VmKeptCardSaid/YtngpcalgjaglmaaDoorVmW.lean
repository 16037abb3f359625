/- Both steps, whatever the instruction is: what they tell and leave. -/
import Derived.Test.YtngpcalgjaglmaaDoorVmV
import Derived.Test.YtngpcalgjaglmaaDoorVmU
import Derived.Test.YtngpcalgjaglmaaDoorVmQ
import Derived.Test.YtngpcalgjaglmaaDoorVmP
import Derived.Test.YtngpcalgjaglmaaDoorVmL
import Derived.Test.YtngpcalgjaglmaaDoorVmF
import Derived.Test.YtngpcalgjaglmaaDoorVmCode
namespace Go.Proofs.YtngpcalgjaglmaaDoor
open Go.RowKit

theorem reg_in {r : Int} {u l : Bool} (h : regB r u l = true) (hu : u = true) (hl : l = false) : 0 ≤ r ∧ r < 32 := by
  subst hu hl
  unfold regB regP at h
  simp at h; omega
/-- What an instruction has that may be. -/
theorem good_facts {op A B C : Int} {V n : Nat} (h : goodV op A B C V n = true) :
    (1 ≤ op ∧ op ≤ 58) ∧ (fA op = true → 0 ≤ A ∧ A < 32) ∧ (fB op = true → noB op = false → 0 ≤ B ∧ B < 32) ∧ (fC op = true → noC op = false → 0 ≤ C ∧ C < 32) ∧ (plc op = true → V < n) := by
  unfold goodV mayB headB restB at h
  simp only [Bool.and_eq_true] at h
  obtain ⟨h0, h1, h2, h3, h4, _⟩ := h
  refine ⟨(decide_eq_true_eq.mp h0).1, fun ha => reg_in h1 ha rfl, fun hb hn => reg_in h2 hb hn, fun hc hn => reg_in h3 hc hn, fun hp => ?_⟩
  unfold numB numP at h4
  simp [hp] at h4
  exact h4

/-- One step of a code: how it goes, what error, the frame, the cells, their count. -/
def vstep (rs : List (List Int)) (F : Fm) (cs ws : List Nat) (ct : Nat) : Int × ErrL × Fm × List Nat × Nat :=
  match (if F.pc < 0 then none else rs[F.pc.toNat]?) with
  | some [o, A, B, C, V, _, _] =>
    if goodV o A B C V.toNat rs.length = false then (3, none, F, cs, ct)
    else if o ≤ 11 then (0, none, reckF o A.toNat B C V.toNat F, cs, ct)
    else if o ≤ 16 then ((jumpN o A V.toNat F).1, none, (jumpN o A V.toNat F).2, cs, ct)
    else if o ≤ 21 then
      (if accErr ws (adrN F.rs B V.toNat) = none then 0 else 3, inL vmL F.pc memL (accErr ws (adrN F.rs B V.toNat)),
        if accErr ws (adrN F.rs B V.toNat) = none then ⟨F.pc + 1, F.rs.set A.toNat (accY o A.toNat F.rs cs ws (adrN F.rs B V.toNat)), F.bk⟩ else F,
        accCs (accK o) cs ws (adrN F.rs B V.toNat) (F.rs.getD A.toNat 0) (accV o C A.toNat F.rs), accN ws (adrN F.rs B V.toNat) ct)
    else (1, none, F, cs, ct)
  | _ => (3, none, F, cs, ct)

structure StepRes (w : World) (fb mb cb wb : Nat) (v : Value) (ws : List Nat) (th : Nat) (R : Int × ErrL × Fm × List Nat × Nat) (e : Ending) (w' : World) : Prop where
  res : ∃ er, e = .returned (.tuple #[.int .i64 R.1, er]) ∧ Tells w' er R.2.1
  fm : ∃ v', FmAt w' fb 0 v' R.2.2.1 ∧ ∀ k, v'.ownBlock = some k → v.ownBlock = some k ∨ w.heap.size ≤ k
  mem : MemRep w' mb cb wb R.2.2.2.1 ws th R.2.2.2.2
  fr : Fr (fun k => k = fb ∨ k = mb ∨ k = cb) w w'
structure RStepRes (w : World) (fb rb rwb rhb : Nat) (v : Value) (ws : List Nat) (R : Int × ErrL × Fm × List Nat × Nat) (e : Ending) (w' : World) : Prop where
  res : ∃ er, e = .returned (.tuple #[.int .i64 R.1, er]) ∧ TellsF w' er R.2.1
  fm : ∃ v', FmAt w' fb 0 v' R.2.2.1 ∧ ∀ k, v'.ownBlock = some k → v.ownBlock = some k ∨ w.heap.size ≤ k
  mem : RefRep w' rb rwb rhb R.2.2.2.1 ws R.2.2.2.2
  fr : Fr (fun k => k = fb ∨ k = rb ∨ k = rhb) w w'

theorem insAt_of {w : World} {g off k : Nat} {o A B C : Int} {V : Nat} {M W : Int} (hg : g < w.heap.size) (c0 : w.cell? ⟨g, off + k * 7, none⟩ = some (.int .i64 o)) (c1 : w.cell? ⟨g, off + k * 7 + 1, none⟩ = some (.int .i64 A)) (c2 : w.cell? ⟨g, off + k * 7 + 2, none⟩ = some (.int .i64 B)) (c3 : w.cell? ⟨g, off + k * 7 + 3, none⟩ = some (.int .i64 C))
    (c4 : w.cell? ⟨g, off + k * 7 + 4, none⟩ = some (.int .u64 V)) (c5 : w.cell? ⟨g, off + k * 7 + 5, none⟩ = some (.int .i64 M)) (c6 : w.cell? ⟨g, off + k * 7 + 6, none⟩ = some (.int .i64 W)) : InsAt w g off k o A B C V M W :=
  ⟨hg, c0, c1, c2, c3, c4, c5, c6⟩

theorem vstep_out {rs : List (List Int)} {F : Fm} {cs ws : List Nat} {ct : Nat} (h : F.pc < 0 ∨ (rs.length : Int) ≤ F.pc) : vstep rs F cs ws ct = (3, none, F, cs, ct) := by
  unfold vstep
  split
  · rename_i e
    split at e
    · cases e
    · have := (List.getElem?_eq_some_iff.1 e).1; omega
  · rfl
theorem vstep_at {rs : List (List Int)} {F : Fm} {cs ws : List Nat} {ct k : Nat} {o A B C : Int} {V : Nat} {M W : Int} (hk : F.pc = k) (hl : k < rs.length) (e : rs[k] = [o, A, B, C, (V : Int), M, W]) : vstep rs F cs ws ct =
    if goodV o A B C V rs.length = false then (3, none, F, cs, ct)
    else if o ≤ 11 then (0, none, reckF o A.toNat B C V F, cs, ct)
    else if o ≤ 16 then ((jumpN o A V F).1, none, (jumpN o A V F).2, cs, ct)
    else if o ≤ 21 then
      (if accErr ws (adrN F.rs B V) = none then 0 else 3, inL vmL F.pc memL (accErr ws (adrN F.rs B V)),
        if accErr ws (adrN F.rs B V) = none then ⟨F.pc + 1, F.rs.set A.toNat (accY o A.toNat F.rs cs ws (adrN F.rs B V)), F.bk⟩ else F,
        accCs (accK o) cs ws (adrN F.rs B V) (F.rs.getD A.toNat 0) (accV o C A.toNat F.rs), accN ws (adrN F.rs B V) ct)
    else (1, none, F, cs, ct) := by
  unfold vstep
  rw [if_neg (by omega), hk, Int.toNat_natCast, List.getElem?_eq_getElem hl, e]
  simp only [Int.toNat_natCast]

theorem f34_wide {w w' : World} {fb : Nat} {T : Nat → Prop} (h : Fr34 fb 0 w w') (ht : T fb) : Fr T w w' := h.fr.mono (fun _ _ e => e ▸ ht)

section
variable (fb mb cb wb : Nat) (v : Value) (F : Fm) (cs ws : List Nat) (th ct : Nat) (rs : List (List Int)) (co : Option Addr) (cap : Nat) (w : World)
theorem step_any (h : FmAt w fb 0 v F) (hc : Recs insKs w co rs) (hfit : ∀ r ∈ rs, RecOk insKs r) (hn : rs.length ≤ 1000000) (hm : MemRep w mb cb wb cs ws th ct) (hct : ct + 1 < 1000000000)
    (hap : fb ≠ mb ∧ fb ≠ cb ∧ fb ≠ wb) (hvp : v.ownBlock ≠ some mb ∧ v.ownBlock ≠ some cb ∧ v.ownBlock ≠ some wb) :
    Calls Tryd.prog 10 #[.pointer (some ⟨fb, 0, none⟩), .slice co rs.length cap, memV mb] w fun e w' => StepRes w fb mb cb wb v ws th (vstep rs F cs ws ct) e w' := by
  by_cases hpc : F.pc < 0 ∨ (rs.length : Int) ≤ F.pc
  · rw [vstep_out hpc]
    refine (step_out fb 0 v (memV mb) F co rs.length cap w h (by omega) hpc).mono ?_
    rintro e w' ⟨rfl, rfl⟩
    exact ⟨⟨_, rfl, rfl⟩, ⟨v, h, fun _ h => .inl h⟩, hm, Fr.refl _ _⟩
  · obtain ⟨k, hk⟩ := Int.eq_ofNat_of_zero_le (show 0 ≤ F.pc by omega)
    have hl : k < rs.length := by omega
    obtain ⟨o, A, B, C, V, M, W, g, off, e0, rfl, hg, hV, c0, c1, c2, c3, c4, c5, c6⟩ := ins_at hc hfit hl
    have hi := insAt_of hg c0 c1 c2 c3 c4 c5 c6
    rw [vstep_at hk hl e0]
    by_cases hgd : goodV o A B C V rs.length = false
    · rw [if_pos hgd]
      refine (step_bad fb 0 v (memV mb) F g off rs.length cap k o A B C V M W w h hi hl (by omega) hV hk hgd).mono ?_
      rintro e w' ⟨rfl, hn⟩
      exact ⟨⟨_, rfl, rfl⟩, ⟨v, h.new hn, fun _ h => .inl h⟩, hm.keep hn id id id, hn.mono (fun _ _ e => e.elim)⟩
    · rw [if_neg hgd]
      replace hgd : goodV o A B C V rs.length = true := by simpa using hgd
      obtain ⟨ho, hA, hB, hC, hP⟩ := good_facts hgd
      by_cases h11 : o ≤ 11
      · rw [if_pos h11]
        have ha : 0 ≤ A ∧ A < 32 := hA (by rcases (show o = 1 ∨ o = 2 ∨ o = 3 ∨ o = 4 ∨ o = 5 ∨ o = 6 ∨ o = 7 ∨ o = 8 ∨ o = 9 ∨ o = 10 ∨ o = 11 by omega) with rfl | rfl | rfl | rfl | rfl | rfl | rfl | rfl | rfl | rfl | rfl <;> decide)
        refine (step_reck fb 0 v (memV mb) F g off rs.length cap k o A B C V M W w h hi hl hn hV hk hgd (by omega) ha).mono ?_
        rintro e w' ⟨v', rfl, hf, h34, hv⟩
        exact ⟨⟨_, rfl, rfl⟩, ⟨v', hf, hv⟩, hm.keep h34.fr (fun e => hap.1 e.symm) (fun e => hap.2.1 e.symm) (fun e => hap.2.2 e.symm), f34_wide h34 (.inl rfl)⟩
      · rw [if_neg h11]
        by_cases h16 : o ≤ 16
        · rw [if_pos h16]
          refine (step_jump fb 0 v (memV mb) F g off rs.length cap k o A B C V M W w h hi hl hn hV hk hgd (by omega) (fun h => hA (by rcases h with rfl | rfl <;> decide)) (fun h => hP (by rcases (show o = 12 ∨ o = 13 ∨ o = 14 ∨ o = 15 by omega) with rfl | rfl | rfl | rfl <;> decide))).mono ?_
          rintro e w' ⟨v', rfl, hf, h34, hv⟩
          exact ⟨⟨_, rfl, rfl⟩, ⟨v', hf, hv⟩, hm.keep h34.fr (fun e => hap.1 e.symm) (fun e => hap.2.1 e.symm) (fun e => hap.2.2 e.symm), f34_wide h34 (.inl rfl)⟩
        · rw [if_neg h16]
          by_cases h21 : o ≤ 21
          · rw [if_pos h21]
            have ha : 0 ≤ A ∧ A < 32 := hA (by rcases (show o = 17 ∨ o = 18 ∨ o = 19 ∨ o = 20 ∨ o = 21 by omega) with rfl | rfl | rfl | rfl | rfl <;> decide)
            refine (step_acc fb 0 mb cb wb v F cs ws th ct g off rs.length cap k w o A B C V M W h hi hl hn hV hk hgd ha (fun e => hC (by subst e; decide) (by subst e; decide)) (by omega) hm hct hap ⟨hvp.1, hvp.2.1⟩).mono ?_
            rintro e w' ⟨r, er, rfl, hr⟩
            obtain ⟨hr1, hr2, hr3, hr4, hr5⟩ := hr
            exact ⟨⟨er, by rw [hr1], hr2⟩, ⟨v, hr3, fun _ h => .inl h⟩, hr4, hr5⟩
          · rw [if_neg h21]
            refine (step_away fb 0 v (memV mb) F g off rs.length cap k o A B C V M W w h hi hl hn hV hk hgd (by omega)).mono ?_
            rintro e w' ⟨rfl, hn⟩
            exact ⟨⟨_, rfl, rfl⟩, ⟨v, h.new hn, fun _ h => .inl h⟩, hm.keep hn id id id, hn.mono (fun _ _ e => e.elim)⟩
end

section
variable (fb rb rwb rhb : Nat) (v : Value) (F : Fm) (cs ws : List Nat) (ct : Nat) (rs : List (List Int)) (co : Option Addr) (cap : Nat) (w : World)
theorem rstep_any (h : FmAt w fb 0 v F) (hc : Recs insKs w co rs) (hfit : ∀ r ∈ rs, RecOk insKs r) (hn : rs.length ≤ 1000000) (hm : RefRep w rb rwb rhb cs ws ct) (hct : ct + 1 < 1000000000)
    (hap : fb ≠ rb ∧ fb ≠ rwb ∧ fb ≠ rhb) (hvp : v.ownBlock ≠ some rb ∧ v.ownBlock ≠ some rwb ∧ v.ownBlock ≠ some rhb) :
    Calls Tryd.prog 11 #[.pointer (some ⟨fb, 0, none⟩), .slice co rs.length cap, .pointer (some ⟨rb, 0, none⟩)] w fun e w' => RStepRes w fb rb rwb rhb v ws (vstep rs F cs ws ct) e w' := by
  have hkeep : ∀ {w' : World}, Fr34 fb 0 w w' → RefRep w' rb rwb rhb cs ws ct := fun h34 => hm.keep h34.fr (fun e => hap.1 e.symm) (fun e => hap.2.1 e.symm) (fun e => hap.2.2 e.symm)
  by_cases hpc : F.pc < 0 ∨ (rs.length : Int) ≤ F.pc
  · rw [vstep_out hpc]
    refine (rstep_out fb 0 v (.pointer (some ⟨rb, 0, none⟩)) F co rs.length cap w h (by omega) hpc).mono ?_
    rintro e w' ⟨rfl, rfl⟩
    exact ⟨⟨_, rfl, rfl⟩, ⟨v, h, fun _ h => .inl h⟩, hm, Fr.refl _ _⟩
  · obtain ⟨k, hk⟩ := Int.eq_ofNat_of_zero_le (show 0 ≤ F.pc by omega)
    have hl : k < rs.length := by omega
    obtain ⟨o, A, B, C, V, M, W, g, off, e0, rfl, hg, hV, c0, c1, c2, c3, c4, c5, c6⟩ := ins_at hc hfit hl
    have hi := insAt_of hg c0 c1 c2 c3 c4 c5 c6
    rw [vstep_at hk hl e0]
    by_cases hgd : goodV o A B C V rs.length = false
    · rw [if_pos hgd]
      refine (rstep_bad fb 0 v (.pointer (some ⟨rb, 0, none⟩)) F g off rs.length cap k A B C V M W w o h hi hl hn hV hk hgd).mono ?_
      rintro e w' ⟨rfl, hn⟩
      exact ⟨⟨_, rfl, rfl⟩, ⟨v, h.new hn, fun _ h => .inl h⟩, hm.keep hn id id id, hn.mono (fun _ _ e => e.elim)⟩
    · rw [if_neg hgd]
      replace hgd : goodV o A B C V rs.length = true := by simpa using hgd
      obtain ⟨ho, hA, hB, hC, hP⟩ := good_facts hgd
      by_cases h11 : o ≤ 11
      · rw [if_pos h11]
        have ha : 0 ≤ A ∧ A < 32 := hA (by rcases (show o = 1 ∨ o = 2 ∨ o = 3 ∨ o = 4 ∨ o = 5 ∨ o = 6 ∨ o = 7 ∨ o = 8 ∨ o = 9 ∨ o = 10 ∨ o = 11 by omega) with rfl | rfl | rfl | rfl | rfl | rfl | rfl | rfl | rfl | rfl | rfl <;> decide)
        obtain ⟨a, rfl⟩ := Int.eq_ofNat_of_zero_le ha.1
        have haa : a < 32 := by omega
        refine Calls.mono (R := RStepped w fb 0 v (0, reckF o a B C V F)) ?_ ?_
        · rcases (show o = 1 ∨ o = 2 ∨ o = 3 ∨ o = 4 ∨ o = 5 ∨ o = 6 ∨ o = 7 ∨ o = 8 ∨ o = 9 ∨ o = 10 ∨ o = 11 by omega) with rfl | rfl | rfl | rfl | rfl | rfl | rfl | rfl | rfl | rfl | rfl
          · exact rstep_1 fb 0 v (.pointer (some ⟨rb, 0, none⟩)) F g off rs.length cap k B C V M W w a haa h hi hl hn hV hk hgd
          · have hb := hB (by decide) (by decide)
            obtain ⟨b, rfl⟩ := Int.eq_ofNat_of_zero_le hb.1
            exact rstep_2 fb 0 v (.pointer (some ⟨rb, 0, none⟩)) F g off rs.length cap k b C V M W w a b haa (by omega) rfl h hi hl hn hV hk hgd
          · have hb := hB (by decide) (by decide)
            obtain ⟨b, rfl⟩ := Int.eq_ofNat_of_zero_le hb.1
            exact rstep_3 fb 0 v (.pointer (some ⟨rb, 0, none⟩)) F g off rs.length cap k b C V M W w a b haa (by omega) rfl h hi hl hn hV hk hgd
          · have hb := hB (by decide) (by decide)
            obtain ⟨b, rfl⟩ := Int.eq_ofNat_of_zero_le hb.1
            exact rstep_4 fb 0 v (.pointer (some ⟨rb, 0, none⟩)) F g off rs.length cap k b C V M W w a b haa (by omega) rfl h hi hl hn hV hk hgd
          · have hb := hB (by decide) (by decide)
            obtain ⟨b, rfl⟩ := Int.eq_ofNat_of_zero_le hb.1
            exact rstep_5 fb 0 v (.pointer (some ⟨rb, 0, none⟩)) F g off rs.length cap k b C V M W w a b haa (by omega) rfl h hi hl hn hV hk hgd
          · have hb := hB (by decide) (by decide)
            obtain ⟨b, rfl⟩ := Int.eq_ofNat_of_zero_le hb.1
            exact rstep_6 fb 0 v (.pointer (some ⟨rb, 0, none⟩)) F g off rs.length cap k b C V M W w a b haa (by omega) rfl h hi hl hn hV hk hgd
          · have hb := hB (by decide) (by decide)
            obtain ⟨b, rfl⟩ := Int.eq_ofNat_of_zero_le hb.1
            exact rstep_7 fb 0 v (.pointer (some ⟨rb, 0, none⟩)) F g off rs.length cap k b C V M W w a b haa (by omega) rfl h hi hl hn hV hk hgd
          · have hb := hB (by decide) (by decide)
            obtain ⟨b, rfl⟩ := Int.eq_ofNat_of_zero_le hb.1
            exact rstep_8 fb 0 v (.pointer (some ⟨rb, 0, none⟩)) F g off rs.length cap k b C V M W w a b haa (by omega) rfl h hi hl hn hV hk hgd
          · have hb := hB (by decide) (by decide)
            obtain ⟨b, rfl⟩ := Int.eq_ofNat_of_zero_le hb.1
            exact rstep_9 fb 0 v (.pointer (some ⟨rb, 0, none⟩)) F g off rs.length cap k b C V M W w a b haa (by omega) rfl h hi hl hn hV hk hgd
          · have hb := hB (by decide) (by decide)
            obtain ⟨b, rfl⟩ := Int.eq_ofNat_of_zero_le hb.1
            exact rstep_10 fb 0 v (.pointer (some ⟨rb, 0, none⟩)) F g off rs.length cap k b C V M W w a b haa (by omega) rfl h hi hl hn hV hk hgd
          · have hb := hB (by decide) (by decide)
            obtain ⟨b, rfl⟩ := Int.eq_ofNat_of_zero_le hb.1
            exact rstep_11 fb 0 v (.pointer (some ⟨rb, 0, none⟩)) F g off rs.length cap k b C V M W w a b haa (by omega) rfl h hi hl hn hV hk hgd
        · rintro e w' ⟨v', rfl, hf, h34, hv⟩
          exact ⟨⟨_, rfl, rfl⟩, ⟨v', hf, hv⟩, hkeep h34, f34_wide h34 (.inl rfl)⟩
      · rw [if_neg h11]
        by_cases h16 : o ≤ 16
        · rw [if_pos h16]
          refine Calls.mono (R := RStepped w fb 0 v (jumpN o A V F)) ?_ ?_
          · rcases (show o = 12 ∨ o = 13 ∨ o = 14 ∨ o = 15 ∨ o = 16 by omega) with rfl | rfl | rfl | rfl | rfl
            · exact rstep_12 fb 0 v (.pointer (some ⟨rb, 0, none⟩)) F g off rs.length cap k A B C V M W w h hi hl hn hV hk hgd (hP (by decide))
            · have ha := hA (by decide)
              obtain ⟨a, rfl⟩ := Int.eq_ofNat_of_zero_le ha.1
              exact rstep_13 fb 0 v (.pointer (some ⟨rb, 0, none⟩)) F g off rs.length cap k B C V M W w a (by omega) h hi hl hn hV hk hgd (hP (by decide))
            · have ha := hA (by decide)
              obtain ⟨a, rfl⟩ := Int.eq_ofNat_of_zero_le ha.1
              exact rstep_14 fb 0 v (.pointer (some ⟨rb, 0, none⟩)) F g off rs.length cap k B C V M W w a (by omega) h hi hl hn hV hk hgd (hP (by decide))
            · exact rstep_15 fb 0 v (.pointer (some ⟨rb, 0, none⟩)) F g off rs.length cap k A B C V M W w h hi hl hn hV hk hgd (hP (by decide))
            · exact rstep_16 fb 0 v (.pointer (some ⟨rb, 0, none⟩)) F g off rs.length cap k A B C V M W w h hi hl hn hV hk hgd
          · rintro e w' ⟨v', rfl, hf, h34, hv⟩
            exact ⟨⟨_, rfl, rfl⟩, ⟨v', hf, hv⟩, hkeep h34, f34_wide h34 (.inl rfl)⟩
        · rw [if_neg h16]
          by_cases h21 : o ≤ 21
          · rw [if_pos h21]
            have ha : 0 ≤ A ∧ A < 32 := hA (by rcases (show o = 17 ∨ o = 18 ∨ o = 19 ∨ o = 20 ∨ o = 21 by omega) with rfl | rfl | rfl | rfl | rfl <;> decide)
            obtain ⟨a, rfl⟩ := Int.eq_ofNat_of_zero_le ha.1
            have haa : a < 32 := by omega
            have hv2 : v.ownBlock ≠ some rb ∧ v.ownBlock ≠ some rhb := ⟨hvp.1, hvp.2.2⟩
            refine Calls.mono (R := fun e w' => ∃ r er, e = .returned (.tuple #[r, er]) ∧ RAccRes w fb 0 rb rwb rhb v F cs ws ct o a B C V r er w') ?_ ?_
            · rcases (show o = 17 ∨ o = 18 ∨ o = 19 ∨ o = 20 ∨ o = 21 by omega) with rfl | rfl | rfl | rfl | rfl
              · exact rstep_acc17 fb 0 rb rwb rhb v F cs ws ct g off rs.length cap k B C V M W w a haa h hi hl hn hV hk hgd hm hct hap hv2
              · exact rstep_acc18 fb 0 rb rwb rhb v F cs ws ct g off rs.length cap k B C V M W w a haa h hi hl hn hV hk hgd hm hct hap hv2
              · exact rstep_acc19 fb 0 rb rwb rhb v F cs ws ct g off rs.length cap k B C V M W w a haa h hi hl hn hV hk hgd hm hct hap hv2
              · exact rstep_acc20 fb 0 rb rwb rhb v F cs ws ct g off rs.length cap k B C V M W w a haa h hi hl hn hV hk hgd hm hct hap hv2
              · have hc := hC (by decide) (by decide)
                obtain ⟨c, rfl⟩ := Int.eq_ofNat_of_zero_le hc.1
                exact rstep_acc21 fb 0 rb rwb rhb v F cs ws ct g off rs.length cap k B c V M W w a haa c (by omega) rfl h hi hl hn hV hk hgd hm hct hap hv2
            · rintro e w' ⟨r, er, rfl, hr⟩
              obtain ⟨hr1, hr2, hr3, hr4, hr5⟩ := hr
              exact ⟨⟨er, by rw [hr1], hr2⟩, ⟨v, hr3, fun _ h => .inl h⟩, hr4, hr5⟩
          · rw [if_neg h21]
            refine (rstep_away fb 0 v (.pointer (some ⟨rb, 0, none⟩)) F g off rs.length cap k A B C V M W w o h hi hl hn hV hk hgd (by omega)).mono ?_
            rintro e w' ⟨rfl, hn⟩
            exact ⟨⟨_, rfl, rfl⟩, ⟨v, h.new hn, fun _ h => .inl h⟩, hm.keep hn id id id, hn.mono (fun _ _ e => e.elim)⟩
end

end Go.Proofs.YtngpcalgjaglmaaDoor
