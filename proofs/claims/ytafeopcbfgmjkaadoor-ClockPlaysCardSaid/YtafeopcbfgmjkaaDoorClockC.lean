/- A clock: the document's example. -/
import Derived.Test.YtafeopcbfgmjkaaDoorClockB
namespace Go.Proofs.YtafeopcbfgmjkaaDoor
open Go.RowKit Go.Maps

/-- All its blocks are new. -/
def CFresh (m cb hb mb bm : Nat) (v : Value) : Prop := ∀ k, cOwn cb hb mb bm v k → m ≤ k
theorem CFresh.turn {m B cb hb mb bm : Nat} {v v' : Value} (h : CFresh m cb hb mb bm v) (ho : ∀ k, v'.ownBlock = some k → v.ownBlock = some k ∨ B ≤ k) (hB : m ≤ B) : CFresh m cb hb mb bm v' := by
  rintro k (hk | hk | hk | hk | hk)
  · exact h k (.inl hk)
  · exact h k (.inr (.inl hk))
  · exact h k (.inr (.inr (.inl hk)))
  · exact h k (.inr (.inr (.inr (.inl hk))))
  · rcases ho k hk with h1 | h1
    · exact h k (.inr (.inr (.inr (.inr h1))))
    · omega
theorem CFresh.less {m cb hb mb bm : Nat} {v v' : Value} (h : CFresh m cb hb mb bm v) (ho : ∀ k, v'.ownBlock = some k → v.ownBlock = some k) : CFresh m cb hb mb bm v' :=
  h.turn (B := m) (fun k hk => .inl (ho k hk)) (Nat.le_refl _)
theorem newC {w w1 w2 : World} {cb hb mb bm : Nat} {v : Value} (h : New w w1) (f : Fr (cOwn cb hb mb bm v) w1 w2) (hf : CFresh w.heap.size cb hb mb bm v) : New w w2 :=
  h.then f (fun k hk hs => by have := hf k hs; omega)
theorem row_form {w : World} {base n : Nat} {v : Value} {xs : List Nat} (h : w.ownsRow base 25 1 v n (u64c xs)) : ∃ ao cap, v = .slice ao n cap ∧ ∀ (j x : Nat), xs[j]? = some x → ∃ g, ao = some ⟨g, 0, none⟩ ∧ base ≤ g ∧ g < w.heap.size ∧ w.cell? ⟨g, j, none⟩ = some (.int .u64 x) := by
  obtain ⟨ao, cap, rfl, hc⟩ := owned_form h
  exact ⟨ao, cap, rfl, fun j x hj => hc j _ (u64c_get hj)⟩

set_option maxRecDepth 100000 in
set_option maxHeartbeats 4000000 in
theorem awake_any (w : World) : Calls Tryd.prog 13 #[] w fun e w' => e = .returned (.bool true) ∧ New w w' := by
  go_enter Tryd.func13, Tryd.ntmps13
  go_wp2_with fail
  refine (cnew_any _).mono ?_
  rintro e w1 ⟨cb, hb, mb, bm, rfl, hfr, hr, hn1⟩
  have HR := Lib.hid hr
  have HN := Lib.hid hn1
  have HF := Lib.hid (show CFresh w.heap.size cb hb mb bm _ from hfr)
  clear hr hn1 hfr
  go_wp2_with fail
  refine (arm_ok cb hb mb bm _ [] 0 0 7 0 w1 HR.out (by omega) (by omega) (by omega) rfl (by omega) (by simp)).mono ?_
  rintro e w2 ⟨rfl, v2, hr2, ho2, hf2⟩
  have HF2 := Lib.hid (HF.out.turn ho2 HN.out.size)
  have HN2 := Lib.hid (newC HN.out hf2 HF.out)
  have HR2 := Lib.hid (show ClockRep w2 cb hb mb bm v2 [⟨0, 7, 1⟩] 1 0 from hr2)
  clear hr2 ho2 hf2 HF HN HR
  go_wp2_with fail
  refine (arm_ok cb hb mb bm v2 [⟨0, 7, 1⟩] 1 0 8 2 w2 HR2.out (by omega) (by omega) (by omega) rfl (by omega) (by simp)).mono ?_
  rintro e w3 ⟨rfl, v3, hr3, ho3, hf3⟩
  have HF3 := Lib.hid (HF2.out.turn ho3 HN2.out.size)
  have HN3 := Lib.hid (newC HN2.out hf3 HF2.out)
  have HR3 := Lib.hid (show ClockRep w3 cb hb mb bm v3 [⟨0, 7, 1⟩, ⟨2, 8, 2⟩] 2 0 from hr3)
  clear hr3 ho3 hf3 HF2 HN2 HR2
  go_wp2_with fail
  refine (tick_any cb hb mb bm v3 [⟨0, 7, 1⟩, ⟨2, 8, 2⟩] 2 0 w3 HR3.out (by omega)).mono ?_
  rintro e w4 ⟨va, v4, rfl, hrow4, hr4, ho4, hf4⟩
  have HF4 := Lib.hid (HF3.out.less ho4)
  have HN4 := Lib.hid (newC HN3.out hf4 HF3.out)
  have HR4 := Lib.hid (show ClockRep w4 cb hb mb bm v4 [⟨2, 8, 2⟩] 2 1 from hr4)
  have HA4 := Lib.hid (show w4.ownsRow w3.heap.size 25 1 va 1 (u64c [7]) from hrow4)
  have HS := Lib.hid (show ∀ k, cOwn cb hb mb bm v4 k → k < w3.heap.size from fun k hk => HR3.out.lt (by
    rcases hk with h | h | h | h | h
    · exact .inl h
    · exact .inr (.inl h)
    · exact .inr (.inr (.inl h))
    · exact .inr (.inr (.inr (.inl h)))
    · exact .inr (.inr (.inr (.inr (ho4 k h))))))
  clear hr4 ho4 hf4 hrow4 HF3 HN3 HR3
  go_wp2_with fail
  refine (tick_any cb hb mb bm v4 [⟨2, 8, 2⟩] 2 1 w4 HR4.out (by omega)).mono ?_
  rintro e w5 ⟨vb, v5, rfl, hrow5, hr5, ho5, hf5⟩
  have HF5 := Lib.hid (HF4.out.less ho5)
  have HN5 := Lib.hid (newC HN4.out hf5 HF4.out)
  have HR5 := Lib.hid (show ClockRep w5 cb hb mb bm v5 [] 2 2 from hr5)
  have hb5 : w5.ownsRow w4.heap.size 25 1 vb 1 (u64c [8]) := hrow5
  have ha5 := own_kept HA4.out hf5 (fun k hk e => by have := (HA4.out.lt k hk).1; have := HS.out k e; omega)
  obtain ⟨ao, ca, rfl, hca⟩ := row_form ha5
  obtain ⟨bo, cb', rfl, hcb⟩ := row_form hb5
  obtain ⟨g, rfl, _, lg, xg⟩ := hca 0 7 rfl
  obtain ⟨g', rfl, _, lg', xg'⟩ := hcb 0 8 rfl
  clear hr5 ho5 hf5 hrow5 HF4 HN4 HR4 hca hcb ha5 hb5 HS HA4
  go_wp2_with fail
  refine (now_any cb hb mb bm v5 [] 2 2 w5 HR5.out).mono ?_
  rintro e w6 ⟨rfl, rfl⟩
  go_wp2
  go_ret
  exact ⟨rfl, HN5.out⟩

end Go.Proofs.YtafeopcbfgmjkaaDoor
