/- Both frames and both memories are alike. -/
import Derived.Test.YtngpcalgjaglmaaDoorVmW
import Derived.Test.YtngpcalgjaglmaaDoorVmI
namespace Go.Proofs.YtngpcalgjaglmaaDoor
open Go.RowKit

/-- The cells behind a slice value. -/
def IntRow (w : World) (ao : Option Addr) (xs : List Int) : Prop := ∀ (j : Nat) (x : Int), xs[j]? = some x → ∃ g, ao = some ⟨g, 0, none⟩ ∧ g < w.heap.size ∧ w.cell? ⟨g, j, none⟩ = some (.int .i64 x)
theorem IntRow.keep {w w' : World} {ao : Option Addr} {xs : List Int} (h : IntRow w ao xs) (f : New w w') : IntRow w' ao xs := fun j x hj => by
  obtain ⟨g, h1, h2, h3⟩ := h j x hj
  exact ⟨g, h1, Nat.lt_of_lt_of_le h2 f.size, (f.cell h2 id _).trans h3⟩
theorem intRow_of {w : World} {e : TypeId} {v : Value} {xs : List Int} (h : w.ownsRow 0 e 1 v xs.length (xs.map iV)) : ∃ ao cap, v = .slice ao xs.length cap ∧ IntRow w ao xs := by
  obtain ⟨ao, cap, rfl, hc⟩ := owned_form h
  refine ⟨ao, cap, rfl, fun j x hj => ?_⟩
  obtain ⟨g, h1, _, h3, h4⟩ := hc j (iV x) (by rw [List.getElem?_map, hj]; rfl)
  exact ⟨g, h1, h3, h4⟩

set_option maxRecDepth 100000 in
set_option maxHeartbeats 1000000 in
theorem ints_any (xs : List Int) (ao bo : Option Addr) (ca cb : Nat) (w : World) (ha : IntRow w ao xs) (hb : IntRow w bo xs) (hm : xs.length ≤ 1000000) :
    Calls Tryd.prog 17 #[.slice ao xs.length ca, .slice bo xs.length cb] w fun e w' => e = .returned (.bool true) ∧ New w w' := by
  obtain ⟨L, hL⟩ : ∃ L, xs.length = L := ⟨_, rfl⟩
  have HA := Lib.hid ha
  have HB := Lib.hid hb
  have HL := Lib.hid hL
  rw [hL] at hm ⊢
  clear ha hb hL
  have t0 : ((L : Int) != (L : Int)) = false := by simp
  go_enter Tryd.func17, Tryd.ntmps17
  go_wp2_with fail
  go_loopw [5] (fun i wr => ∃ k : Nat, k ≤ L ∧ i = .int .i64 k ∧ New w wr) (fun i _ => L - (intOf i).toNat)
  case atStart => exact ⟨0, by omega, rfl, Fr.refl _ _⟩
  case round =>
    obtain ⟨k, hk, rfl, hn⟩ := hrel
    have HN := Lib.hid hn
    by_cases hlt : k < L
    · obtain ⟨x, hx⟩ : ∃ x, xs[k]? = some x := ⟨xs[k]'(by rw [HL.out]; exact hlt), by simp⟩
      obtain ⟨g, rfl, hg, c0⟩ := HA.out.keep hn k x hx
      obtain ⟨g', rfl, hg', c1⟩ := HB.out.keep hn k x hx
      have t1 : ((x : Int) != x) = false := by simp
      have q1 : (0 : Int) ≤ (k : Int) := by omega
      have q2 : (k : Int) < (L : Int) := by omega
      clear hn hx
      go_wp2_with fail
      go_region
      go_wp2
      go_roundw
      case rel => exact ⟨k + 1, by omega, by go_num, HN.out.drew⟩
      case measure => simp [intOf]; omega
    · clear hn
      go_wp2
      go_ret
      exact ⟨rfl, HN.out⟩

set_option maxRecDepth 100000 in
set_option maxHeartbeats 400000 in
theorem vcount_any (b cb wb : Nat) (cs ws : List Nat) (th ct : Nat) (w : World) (h : MemRep w b cb wb cs ws th ct) :
    Calls Tryd.prog 18 #[.pointer (some ⟨b, 0, none⟩)] w fun e w' => e = .returned (.int .i64 ct) ∧ w = w' := by
  have c0 := h.hd.cell 3 _ rfl
  clear h
  go_enter Tryd.func18, Tryd.ntmps18
  go_wp2
  go_ret
  exact ⟨rfl, rfl⟩

theorem acc_load_same {cs ws : List Nat} {p : Nat} (h : ws.getD p 0 ≠ 0) (hl : p < cs.length) : accCs 0 cs ws p 0 0 = cs ∧ accN ws p = (· + 1) ∧ accErr ws p = none ∧ accVal cs ws p = cs.getD p 0 := by
  refine ⟨?_, funext fun n => ?_, ?_, ?_⟩
  · unfold accCs
    rw [if_neg h]
    unfold laidBy
    rw [if_pos rfl]
    exact set_self (by rw [List.getD_eq_getElem?_getD, List.getElem?_eq_getElem hl]; rfl)
  · unfold accN; rw [if_neg h]
  · unfold accErr; rw [if_neg h]
  · unfold accVal; rw [if_neg h]

set_option maxRecDepth 100000 in
set_option maxHeartbeats 8000000 in
theorem alike_any (fb gb : Nat) (v u : Value) (F : Fm) (b cb wb rb rwb rhb : Nat) (cs ws : List Nat) (ct : Nat) (w : World) (h : Fms w fb gb v u F) (hs : Sync w b cb wb rb rwb rhb cs ws ct) (hw : ∀ k, k < 11 → ws.getD k 0 ≠ 0) (hl : 11 ≤ ws.length) (hct : ct < 999999000) :
    Calls Tryd.prog 13 #[.pointer (some ⟨fb, 0, none⟩), .pointer (some ⟨gb, 0, none⟩), .pointer (some ⟨b, 0, none⟩), .pointer (some ⟨rb, 0, none⟩)] w fun e w' => e = .returned (.bool true) ∧
      Sync w' b cb wb rb rwb rhb cs ws (ct + 11) ∧ Fr (Six b cb wb rb rwb rhb) w w' := by
  obtain ⟨a1, c1, rfl, hr1⟩ := intRow_of h.f.own
  obtain ⟨a2, c2, rfl, hr2⟩ := intRow_of h.g.own
  have hfew := h.f.few
  obtain ⟨pc, rs, bk⟩ := F
  simp only at h hr1 hr2 hfew
  have hlen := h.f.fr.len
  have HRL := Lib.hid (show (Tryd.prog.info? 48).map (·.size) = some (regV rs).length by rw [regSize, List.length_map, hlen])
  have heq : ∀ w, (binOp .neq 48 (.agg (regV rs).toArray) (.agg (regV rs).toArray)).run Tryd.prog w = .ok (.bool false) w := fun w => arr_neq rs hlen w
  have HI := Lib.hid (fun (w' : World) (f : New w w') => ints_any bk a1 a2 c1 c2 w' (hr1.keep f) (hr2.keep f) (by omega))
  have HCT := Lib.hid (fun (w' : World) (f : New w w') => vcount_any b cb wb cs ws (cnt ws) ct w' (hs.m.keep f id id id))
  have HS := Lib.hid hs
  have HT := Lib.hid (fun (w' : World) (f : New w w') => And.intro ((h.f.fr.new f).pc) (And.intro ((h.g.fr.new f).pc) (And.intro ((h.f.fr.new f).range) (And.intro ((h.g.fr.new f).range) (And.intro ((h.f.fr.new f).back) (And.intro ((h.g.fr.new f).back) ((hs.r.keep f id id id).hd.cell 2 _ rfl)))))))
  generalize hbl : bk.length = n at HI HT hfew
  have t1 : ((pc : Int) != pc) = false := by simp
  have t2 : ((ct : Int) != (ct : Int)) = false := by simp
  have hfl := h.f.fr.lt
  have hgl := h.g.fr.lt
  have hrl := hs.r.hd.lt
  have HWD := Lib.hid hw
  clear h hr1 hr2 hs hlen hbl hw
  go_enter Tryd.func13, Tryd.ntmps13
  go_wp2_with fail
  refine heldStart (fun wz => wz.cell? ⟨fb, 0, none⟩ = some (.int .i64 pc) ∧ wz.cell? ⟨gb, 0, none⟩ = some (.int .i64 pc) ∧ wz.rangeAt fb 1 (regV rs) ∧ wz.rangeAt gb 1 (regV rs) ∧
    wz.cell? ⟨fb, 33, none⟩ = some (.slice a1 n c1) ∧ wz.cell? ⟨gb, 33, none⟩ = some (.slice a2 n c2) ∧ wz.cell? ⟨rb, 2, none⟩ = some (.int .i64 ct)) (by kernel_rfl) ?_
  have HX0 := Lib.hid ((Fr.refl (fun _ => False) w).drew)
  generalize w.drew = w0 at HX0 ⊢
  have s0 := HT.out w0 HX0.out
  refine wpAnyH_take (i := 0) (v := ?_) rfl (by kernel_rfl) (by kernel_rfl) (by kernel_rfl) (fun _ _ _ h => h) (Or.inl ⟨by rfl, ?_⟩) s0 ?_
  rotate_left
  · intro w hSw; first | (obtain ⟨s1, s2, s3, s4, s5, s6, s7, s8⟩ := hSw; go_simp; rfl) | (obtain ⟨s1, s2, s3, s4, s5, s6, s7⟩ := hSw; go_simp; rfl) | (obtain ⟨s1, s2, s3⟩ := hSw; go_simp; rfl) | (obtain ⟨s1, s2⟩ := hSw; go_simp; rfl) | (have s1 := hSw; go_simp; rfl)
  go_simp
  refine wpAnyH_take (i := 1) (v := ?_) rfl (by kernel_rfl) (by kernel_rfl) (by kernel_rfl) (fun _ _ _ h => h) (Or.inl ⟨by rfl, ?_⟩) s0 ?_
  rotate_left
  · intro w hSw; first | (obtain ⟨s1, s2, s3, s4, s5, s6, s7, s8⟩ := hSw; go_simp; rfl) | (obtain ⟨s1, s2, s3, s4, s5, s6, s7⟩ := hSw; go_simp; rfl) | (obtain ⟨s1, s2, s3⟩ := hSw; go_simp; rfl) | (obtain ⟨s1, s2⟩ := hSw; go_simp; rfl) | (have s1 := hSw; go_simp; rfl)
  go_simp
  refine wpAnyH_take (i := 2) (v := ?_) rfl (by kernel_rfl) (by kernel_rfl) (by kernel_rfl) (fun _ _ _ h => h) (Or.inl ⟨by rfl, ?_⟩) s0 ?_
  rotate_left
  · intro w hSw; first | (obtain ⟨s1, s2, s3, s4, s5, s6, s7, s8⟩ := hSw; go_simp; rfl) | (obtain ⟨s1, s2, s3, s4, s5, s6, s7⟩ := hSw; go_simp; rfl) | (obtain ⟨s1, s2, s3⟩ := hSw; go_simp; rfl) | (obtain ⟨s1, s2⟩ := hSw; go_simp; rfl) | (have s1 := hSw; go_simp; rfl)
  go_simp
  refine wpAnyH_take (i := 3) (v := ?_) rfl (by kernel_rfl) (by kernel_rfl) (by kernel_rfl) (fun _ _ _ h => h) (Or.inl ⟨by rfl, ?_⟩) s0 ?_
  rotate_left
  · intro w hSw; first | (obtain ⟨s1, s2, s3, s4, s5, s6, s7, s8⟩ := hSw; go_simp; rfl) | (obtain ⟨s1, s2, s3, s4, s5, s6, s7⟩ := hSw; go_simp; rfl) | (obtain ⟨s1, s2, s3⟩ := hSw; go_simp; rfl) | (obtain ⟨s1, s2⟩ := hSw; go_simp; rfl) | (have s1 := hSw; go_simp; rfl)
  go_simp
  refine wpAnyH_take (i := 4) (v := ?_) rfl (by kernel_rfl) (by kernel_rfl) (by kernel_rfl) (fun _ _ _ h => h) (Or.inl ⟨by rfl, ?_⟩) s0 ?_
  rotate_left
  · intro w hSw; first | (obtain ⟨s1, s2, s3, s4, s5, s6, s7, s8⟩ := hSw; go_simp; rfl) | (obtain ⟨s1, s2, s3, s4, s5, s6, s7⟩ := hSw; go_simp; rfl) | (obtain ⟨s1, s2, s3⟩ := hSw; go_simp; rfl) | (obtain ⟨s1, s2⟩ := hSw; go_simp; rfl) | (have s1 := hSw; go_simp; rfl)
  go_simp
  refine wpAnyH_take (i := 5) (v := ?_) rfl (by kernel_rfl) (by kernel_rfl) (by kernel_rfl) (fun _ _ _ h => h) (Or.inl ⟨by rfl, ?_⟩) s0 ?_
  rotate_left
  · intro w hSw; first | (obtain ⟨s1, s2, s3, s4, s5, s6, s7, s8⟩ := hSw; go_simp; rfl) | (obtain ⟨s1, s2, s3, s4, s5, s6, s7⟩ := hSw; go_simp; rfl) | (obtain ⟨s1, s2, s3⟩ := hSw; go_simp; rfl) | (obtain ⟨s1, s2⟩ := hSw; go_simp; rfl) | (have s1 := hSw; go_simp; rfl)
  go_simp
  refine wpAnyH_take (i := 6) (v := ?_) rfl (by kernel_rfl) (by kernel_rfl) (by kernel_rfl) (fun _ _ _ h => h) (Or.inl ⟨by rfl, ?_⟩) s0 ?_
  rotate_left
  · intro w hSw; first | (obtain ⟨s1, s2, s3, s4, s5, s6, s7, s8⟩ := hSw; go_simp; rfl) | (obtain ⟨s1, s2, s3, s4, s5, s6, s7⟩ := hSw; go_simp; rfl) | (obtain ⟨s1, s2, s3⟩ := hSw; go_simp; rfl) | (obtain ⟨s1, s2⟩ := hSw; go_simp; rfl) | (have s1 := hSw; go_simp; rfl)
  go_simp
  refine wpAnyH_take (i := 7) (v := ?_) rfl (by kernel_rfl) (by kernel_rfl) (by kernel_rfl) (fun _ _ _ h => h) (Or.inl ⟨by rfl, ?_⟩) s0 ?_
  rotate_left
  · intro w hSw; first | (obtain ⟨s1, s2, s3, s4, s5, s6, s7, s8⟩ := hSw; go_simp; rfl) | (obtain ⟨s1, s2, s3, s4, s5, s6, s7⟩ := hSw; go_simp; rfl) | (obtain ⟨s1, s2, s3⟩ := hSw; go_simp; rfl) | (obtain ⟨s1, s2⟩ := hSw; go_simp; rfl) | (have s1 := hSw; go_simp; rfl)
  go_simp
  refine wpAnyH_take (i := 8) (v := ?_) rfl (by kernel_rfl) (by kernel_rfl) (by kernel_rfl) (fun _ _ _ h => h) (Or.inl ⟨by rfl, ?_⟩) s0 ?_
  rotate_left
  · intro w hSw; first | (obtain ⟨s1, s2, s3, s4, s5, s6, s7, s8⟩ := hSw; go_simp; rfl) | (obtain ⟨s1, s2, s3, s4, s5, s6, s7⟩ := hSw; go_simp; rfl) | (obtain ⟨s1, s2, s3⟩ := hSw; go_simp; rfl) | (obtain ⟨s1, s2⟩ := hSw; go_simp; rfl) | (have s1 := hSw; go_simp; rfl)
  go_simp
  refine wpAnyH_take (i := 9) (v := ?_) rfl (by kernel_rfl) (by kernel_rfl) (by kernel_rfl) (fun _ _ _ h => h) (Or.inl ⟨by rfl, ?_⟩) s0 ?_
  rotate_left
  · intro w hSw; first | (obtain ⟨s1, s2, s3, s4, s5, s6, s7, s8⟩ := hSw; go_simp; rfl) | (obtain ⟨s1, s2, s3, s4, s5, s6, s7⟩ := hSw; go_simp; rfl) | (obtain ⟨s1, s2, s3⟩ := hSw; go_simp; rfl) | (obtain ⟨s1, s2⟩ := hSw; go_simp; rfl) | (have s1 := hSw; go_simp; rfl)
  go_simp
  refine wpAnyH_take (i := 10) (v := ?_) rfl (by kernel_rfl) (by kernel_rfl) (by kernel_rfl) (fun _ _ _ h => h) (Or.inl ⟨by rfl, ?_⟩) s0 ?_
  rotate_left
  · intro w hSw; first | (obtain ⟨s1, s2, s3, s4, s5, s6, s7, s8⟩ := hSw; go_simp; rfl) | (obtain ⟨s1, s2, s3, s4, s5, s6, s7⟩ := hSw; go_simp; rfl) | (obtain ⟨s1, s2, s3⟩ := hSw; go_simp; rfl) | (obtain ⟨s1, s2⟩ := hSw; go_simp; rfl) | (have s1 := hSw; go_simp; rfl)
  go_simp
  refine wpAnyH_take (i := 11) (v := ?_) rfl (by kernel_rfl) (by kernel_rfl) (by kernel_rfl) (fun _ _ _ h => h) (Or.inl ⟨by rfl, ?_⟩) s0 ?_
  rotate_left
  · intro w hSw; first | (obtain ⟨s1, s2, s3, s4, s5, s6, s7, s8⟩ := hSw; go_simp; rfl) | (obtain ⟨s1, s2, s3, s4, s5, s6, s7⟩ := hSw; go_simp; rfl) | (obtain ⟨s1, s2, s3⟩ := hSw; go_simp; rfl) | (obtain ⟨s1, s2⟩ := hSw; go_simp; rfl) | (have s1 := hSw; go_simp; rfl)
  go_simp
  refine wpAnyH_take (i := 12) (v := ?_) rfl (by kernel_rfl) (by kernel_rfl) (by kernel_rfl) (fun _ _ _ h => h) (Or.inl ⟨by rfl, ?_⟩) s0 ?_
  rotate_left
  · intro w hSw; first | (obtain ⟨s1, s2, s3, s4, s5, s6, s7, s8⟩ := hSw; go_simp; rfl) | (obtain ⟨s1, s2, s3, s4, s5, s6, s7⟩ := hSw; go_simp; rfl) | (obtain ⟨s1, s2, s3⟩ := hSw; go_simp; rfl) | (obtain ⟨s1, s2⟩ := hSw; go_simp; rfl) | (have s1 := hSw; go_simp; rfl)
  go_simp
  refine wpAnyH_take (i := 13) (v := .agg (regV rs).toArray) rfl (by kernel_rfl) (by kernel_rfl) (by kernel_rfl) (fun _ _ _ h => h) (yieldsIf_load_mid (by rfl) 48 (.tmp 24) rfl fb 1 rfl (regV rs) _ (fun w h => h.2.2.1) Tryd.underlying48 rfl HRL.out) s0 ?_
  go_simp
  refine wpAnyH_take (i := 14) (v := ?_) rfl (by kernel_rfl) (by kernel_rfl) (by kernel_rfl) (fun _ _ _ h => h) (Or.inl ⟨by rfl, ?_⟩) s0 ?_
  rotate_left
  · intro w hSw; first | (obtain ⟨s1, s2, s3, s4, s5, s6, s7, s8⟩ := hSw; go_simp; rfl) | (obtain ⟨s1, s2, s3, s4, s5, s6, s7⟩ := hSw; go_simp; rfl) | (obtain ⟨s1, s2, s3⟩ := hSw; go_simp; rfl) | (obtain ⟨s1, s2⟩ := hSw; go_simp; rfl) | (have s1 := hSw; go_simp; rfl)
  go_simp
  refine wpAnyH_take (i := 15) (v := ?_) rfl (by kernel_rfl) (by kernel_rfl) (by kernel_rfl) (fun _ _ _ h => h) (Or.inl ⟨by rfl, ?_⟩) s0 ?_
  rotate_left
  · intro w hSw; first | (obtain ⟨s1, s2, s3, s4, s5, s6, s7, s8⟩ := hSw; go_simp; rfl) | (obtain ⟨s1, s2, s3, s4, s5, s6, s7⟩ := hSw; go_simp; rfl) | (obtain ⟨s1, s2, s3⟩ := hSw; go_simp; rfl) | (obtain ⟨s1, s2⟩ := hSw; go_simp; rfl) | (have s1 := hSw; go_simp; rfl)
  go_simp
  refine wpAnyH_take (i := 16) (v := ?_) rfl (by kernel_rfl) (by kernel_rfl) (by kernel_rfl) (fun _ _ _ h => h) (Or.inl ⟨by rfl, ?_⟩) s0 ?_
  rotate_left
  · intro w hSw; first | (obtain ⟨s1, s2, s3, s4, s5, s6, s7, s8⟩ := hSw; go_simp; rfl) | (obtain ⟨s1, s2, s3, s4, s5, s6, s7⟩ := hSw; go_simp; rfl) | (obtain ⟨s1, s2, s3⟩ := hSw; go_simp; rfl) | (obtain ⟨s1, s2⟩ := hSw; go_simp; rfl) | (have s1 := hSw; go_simp; rfl)
  go_simp
  refine wpAnyH_take (i := 17) (v := .agg (regV rs).toArray) rfl (by kernel_rfl) (by kernel_rfl) (by kernel_rfl) (fun _ _ _ h => h) (yieldsIf_load_mid (by rfl) 48 (.tmp 28) rfl gb 1 rfl (regV rs) _ (fun w h => h.2.2.2.1) Tryd.underlying48 rfl HRL.out) s0 ?_
  go_simp
  refine wpAnyH_take (i := 18) (v := ?_) rfl (by kernel_rfl) (by kernel_rfl) (by kernel_rfl) (fun _ _ _ h => h) (Or.inl ⟨by rfl, ?_⟩) s0 ?_
  rotate_left
  · intro w hSw; first | (obtain ⟨s1, s2, s3, s4, s5, s6, s7, s8⟩ := hSw; go_simp; rfl) | (obtain ⟨s1, s2, s3, s4, s5, s6, s7⟩ := hSw; go_simp; rfl) | (obtain ⟨s1, s2, s3⟩ := hSw; go_simp; rfl) | (obtain ⟨s1, s2⟩ := hSw; go_simp; rfl) | (have s1 := hSw; go_simp; rfl)
  go_simp
  refine wpAnyH_take (i := 19) (v := ?_) rfl (by kernel_rfl) (by kernel_rfl) (by kernel_rfl) (fun _ _ _ h => h) (Or.inl ⟨by rfl, ?_⟩) s0 ?_
  rotate_left
  · intro w hSw; first | (obtain ⟨s1, s2, s3, s4, s5, s6, s7, s8⟩ := hSw; go_simp; rfl) | (obtain ⟨s1, s2, s3, s4, s5, s6, s7⟩ := hSw; go_simp; rfl) | (obtain ⟨s1, s2, s3⟩ := hSw; go_simp; rfl) | (obtain ⟨s1, s2⟩ := hSw; go_simp; rfl) | (have s1 := hSw; go_simp; rfl)
  go_simp
  refine wpAnyH_take (i := 20) (v := ?_) rfl (by kernel_rfl) (by kernel_rfl) (by kernel_rfl) (fun _ _ _ h => h) (Or.inl ⟨by rfl, ?_⟩) s0 ?_
  rotate_left
  · intro w hSw; first | (obtain ⟨s1, s2, s3, s4, s5, s6, s7, s8⟩ := hSw; go_simp; rfl) | (obtain ⟨s1, s2, s3, s4, s5, s6, s7⟩ := hSw; go_simp; rfl) | (obtain ⟨s1, s2, s3⟩ := hSw; go_simp; rfl) | (obtain ⟨s1, s2⟩ := hSw; go_simp; rfl) | (have s1 := hSw; go_simp; rfl)
  go_simp
  refine wpAnyH_take (i := 21) (v := ?_) rfl (by kernel_rfl) (by kernel_rfl) (by kernel_rfl) (fun _ _ _ h => h) (Or.inl ⟨by rfl, ?_⟩) s0 ?_
  rotate_left
  · intro w hSw; first | (obtain ⟨s1, s2, s3, s4, s5, s6, s7, s8⟩ := hSw; go_simp; rfl) | (obtain ⟨s1, s2, s3, s4, s5, s6, s7⟩ := hSw; go_simp; rfl) | (obtain ⟨s1, s2, s3⟩ := hSw; go_simp; rfl) | (obtain ⟨s1, s2⟩ := hSw; go_simp; rfl) | (have s1 := hSw; go_simp; rfl)
  go_simp
  refine wpAnyH_take (i := 22) (v := ?_) rfl (by kernel_rfl) (by kernel_rfl) (by kernel_rfl) (fun _ _ _ h => h) (Or.inl ⟨by rfl, ?_⟩) s0 ?_
  rotate_left
  · intro w hSw; first | (obtain ⟨s1, s2, s3, s4, s5, s6, s7, s8⟩ := hSw; go_simp; rfl) | (obtain ⟨s1, s2, s3, s4, s5, s6, s7⟩ := hSw; go_simp; rfl) | (obtain ⟨s1, s2, s3⟩ := hSw; go_simp; rfl) | (obtain ⟨s1, s2⟩ := hSw; go_simp; rfl) | (have s1 := hSw; go_simp; rfl)
  go_simp
  refine wpAnyH_take (i := 23) (v := ?_) rfl (by kernel_rfl) (by kernel_rfl) (by kernel_rfl) (fun _ _ _ h => h) (Or.inl ⟨by rfl, ?_⟩) s0 ?_
  rotate_left
  · intro w hSw; first | (obtain ⟨s1, s2, s3, s4, s5, s6, s7, s8⟩ := hSw; go_simp; rfl) | (obtain ⟨s1, s2, s3, s4, s5, s6, s7⟩ := hSw; go_simp; rfl) | (obtain ⟨s1, s2, s3⟩ := hSw; go_simp; rfl) | (obtain ⟨s1, s2⟩ := hSw; go_simp; rfl) | (have s1 := hSw; go_simp; rfl)
  go_simp
  refine wpAnyH_take (i := 24) (v := ?_) rfl (by kernel_rfl) (by kernel_rfl) (by kernel_rfl) (fun _ _ _ h => h) (Or.inl ⟨by rfl, ?_⟩) s0 ?_
  rotate_left
  · intro w hSw; first | (obtain ⟨s1, s2, s3, s4, s5, s6, s7, s8⟩ := hSw; go_simp; rfl) | (obtain ⟨s1, s2, s3, s4, s5, s6, s7⟩ := hSw; go_simp; rfl) | (obtain ⟨s1, s2, s3⟩ := hSw; go_simp; rfl) | (obtain ⟨s1, s2⟩ := hSw; go_simp; rfl) | (have s1 := hSw; go_simp; rfl)
  go_simp
  refine wpAnyH_take (i := 25) (v := ?_) rfl (by kernel_rfl) (by kernel_rfl) (by kernel_rfl) (fun _ _ _ h => h) (Or.inl ⟨by rfl, ?_⟩) s0 ?_
  rotate_left
  · intro w hSw; first | (obtain ⟨s1, s2, s3, s4, s5, s6, s7, s8⟩ := hSw; go_simp; rfl) | (obtain ⟨s1, s2, s3, s4, s5, s6, s7⟩ := hSw; go_simp; rfl) | (obtain ⟨s1, s2, s3⟩ := hSw; go_simp; rfl) | (obtain ⟨s1, s2⟩ := hSw; go_simp; rfl) | (have s1 := hSw; go_simp; rfl)
  go_simp
  refine wpAnyH_take (i := 26) (v := ?_) rfl (by kernel_rfl) (by kernel_rfl) (by kernel_rfl) (fun _ _ _ h => h) (Or.inl ⟨by rfl, ?_⟩) s0 ?_
  rotate_left
  · intro w hSw; first | (obtain ⟨s1, s2, s3, s4, s5, s6, s7, s8⟩ := hSw; go_simp; rfl) | (obtain ⟨s1, s2, s3, s4, s5, s6, s7⟩ := hSw; go_simp; rfl) | (obtain ⟨s1, s2, s3⟩ := hSw; go_simp; rfl) | (obtain ⟨s1, s2⟩ := hSw; go_simp; rfl) | (have s1 := hSw; go_simp; rfl)
  go_simp
  refine wpAnyH_take (i := 27) (v := ?_) rfl (by kernel_rfl) (by kernel_rfl) (by kernel_rfl) (fun _ _ _ h => h) (Or.inl ⟨by rfl, ?_⟩) s0 ?_
  rotate_left
  · intro w hSw; first | (obtain ⟨s1, s2, s3, s4, s5, s6, s7, s8⟩ := hSw; go_simp; rfl) | (obtain ⟨s1, s2, s3, s4, s5, s6, s7⟩ := hSw; go_simp; rfl) | (obtain ⟨s1, s2, s3⟩ := hSw; go_simp; rfl) | (obtain ⟨s1, s2⟩ := hSw; go_simp; rfl) | (have s1 := hSw; go_simp; rfl)
  go_simp
  refine wpAnyH_take (i := 28) (v := ?_) rfl (by kernel_rfl) (by kernel_rfl) (by kernel_rfl) (fun _ _ _ h => h) (Or.inl ⟨by rfl, ?_⟩) s0 ?_
  rotate_left
  · intro w hSw; first | (obtain ⟨s1, s2, s3, s4, s5, s6, s7, s8⟩ := hSw; go_simp; rfl) | (obtain ⟨s1, s2, s3, s4, s5, s6, s7⟩ := hSw; go_simp; rfl) | (obtain ⟨s1, s2, s3⟩ := hSw; go_simp; rfl) | (obtain ⟨s1, s2⟩ := hSw; go_simp; rfl) | (have s1 := hSw; go_simp; rfl)
  go_simp
  refine heldOne (i := 29) (by kernel_rfl) rfl (by rfl) (fun K hK => ?_)
  go_simp
  refine (HI.out _ HX0.out).mono ?_
  rintro e w1 ⟨rfl, hn1⟩
  have HX1 := Lib.hid (HX0.out.trans hn1)
  have s1 := HT.out w1 HX1.out
  refine hK.out _ _ s1 ?_
  clear hK K s0 hn1
  refine wpAnyH_take (i := 30) (v := ?_) rfl (by kernel_rfl) (by kernel_rfl) (by kernel_rfl) (fun _ _ _ h => h) (Or.inl ⟨by rfl, ?_⟩) s1 ?_
  rotate_left
  · intro w hSw; first | (obtain ⟨s1, s2, s3, s4, s5, s6, s7, s8⟩ := hSw; go_simp; rfl) | (obtain ⟨s1, s2, s3, s4, s5, s6, s7⟩ := hSw; go_simp; rfl) | (obtain ⟨s1, s2, s3⟩ := hSw; go_simp; rfl) | (obtain ⟨s1, s2⟩ := hSw; go_simp; rfl) | (have s1 := hSw; go_simp; rfl)
  go_simp
  refine wpAnyH_take (i := 31) (v := ?_) rfl (by kernel_rfl) (by kernel_rfl) (by kernel_rfl) (fun _ _ _ h => h) (Or.inl ⟨by rfl, ?_⟩) s1 ?_
  rotate_left
  · intro w hSw; first | (obtain ⟨s1, s2, s3, s4, s5, s6, s7, s8⟩ := hSw; go_simp; rfl) | (obtain ⟨s1, s2, s3, s4, s5, s6, s7⟩ := hSw; go_simp; rfl) | (obtain ⟨s1, s2, s3⟩ := hSw; go_simp; rfl) | (obtain ⟨s1, s2⟩ := hSw; go_simp; rfl) | (have s1 := hSw; go_simp; rfl)
  go_simp
  refine wpAnyH_take (i := 32) (v := ?_) rfl (by kernel_rfl) (by kernel_rfl) (by kernel_rfl) (fun _ _ _ h => h) (Or.inl ⟨by rfl, ?_⟩) s1 ?_
  rotate_left
  · intro w hSw; first | (obtain ⟨s1, s2, s3, s4, s5, s6, s7, s8⟩ := hSw; go_simp; rfl) | (obtain ⟨s1, s2, s3, s4, s5, s6, s7⟩ := hSw; go_simp; rfl) | (obtain ⟨s1, s2, s3⟩ := hSw; go_simp; rfl) | (obtain ⟨s1, s2⟩ := hSw; go_simp; rfl) | (have s1 := hSw; go_simp; rfl)
  go_simp
  refine wpAnyH_take (i := 33) (v := ?_) rfl (by kernel_rfl) (by kernel_rfl) (by kernel_rfl) (fun _ _ _ h => h) (Or.inl ⟨by rfl, ?_⟩) s1 ?_
  rotate_left
  · intro w hSw; first | (obtain ⟨s1, s2, s3, s4, s5, s6, s7, s8⟩ := hSw; go_simp; rfl) | (obtain ⟨s1, s2, s3, s4, s5, s6, s7⟩ := hSw; go_simp; rfl) | (obtain ⟨s1, s2, s3⟩ := hSw; go_simp; rfl) | (obtain ⟨s1, s2⟩ := hSw; go_simp; rfl) | (have s1 := hSw; go_simp; rfl)
  go_simp
  refine wpAnyH_take (i := 35) (v := ?_) rfl (by kernel_rfl) (by kernel_rfl) (by kernel_rfl) (fun _ _ _ h => h) (Or.inl ⟨by rfl, ?_⟩) s1 ?_
  rotate_left
  · intro w hSw; first | (obtain ⟨s1, s2, s3, s4, s5, s6, s7, s8⟩ := hSw; go_simp; rfl) | (obtain ⟨s1, s2, s3, s4, s5, s6, s7⟩ := hSw; go_simp; rfl) | (obtain ⟨s1, s2, s3⟩ := hSw; go_simp; rfl) | (obtain ⟨s1, s2⟩ := hSw; go_simp; rfl) | (have s1 := hSw; go_simp; rfl)
  go_simp
  refine wpAnyH_take (i := 36) (v := ?_) rfl (by kernel_rfl) (by kernel_rfl) (by kernel_rfl) (fun _ _ _ h => h) (Or.inl ⟨by rfl, ?_⟩) s1 ?_
  rotate_left
  · intro w hSw; first | (obtain ⟨s1, s2, s3, s4, s5, s6, s7, s8⟩ := hSw; go_simp; rfl) | (obtain ⟨s1, s2, s3, s4, s5, s6, s7⟩ := hSw; go_simp; rfl) | (obtain ⟨s1, s2, s3⟩ := hSw; go_simp; rfl) | (obtain ⟨s1, s2⟩ := hSw; go_simp; rfl) | (have s1 := hSw; go_simp; rfl)
  go_simp
  refine wpAnyH_take (i := 37) (v := ?_) rfl (by kernel_rfl) (by kernel_rfl) (by kernel_rfl) (fun _ _ _ h => h) (Or.inl ⟨by rfl, ?_⟩) s1 ?_
  rotate_left
  · intro w hSw; first | (obtain ⟨s1, s2, s3, s4, s5, s6, s7, s8⟩ := hSw; go_simp; rfl) | (obtain ⟨s1, s2, s3, s4, s5, s6, s7⟩ := hSw; go_simp; rfl) | (obtain ⟨s1, s2, s3⟩ := hSw; go_simp; rfl) | (obtain ⟨s1, s2⟩ := hSw; go_simp; rfl) | (have s1 := hSw; go_simp; rfl)
  go_simp
  refine wpAnyH_take (i := 38) (v := ?_) rfl (by kernel_rfl) (by kernel_rfl) (by kernel_rfl) (fun _ _ _ h => h) (Or.inl ⟨by rfl, ?_⟩) s1 ?_
  rotate_left
  · intro w hSw; first | (obtain ⟨s1, s2, s3, s4, s5, s6, s7, s8⟩ := hSw; go_simp; rfl) | (obtain ⟨s1, s2, s3, s4, s5, s6, s7⟩ := hSw; go_simp; rfl) | (obtain ⟨s1, s2, s3⟩ := hSw; go_simp; rfl) | (obtain ⟨s1, s2⟩ := hSw; go_simp; rfl) | (have s1 := hSw; go_simp; rfl)
  go_simp
  refine heldOne (i := 34) (by kernel_rfl) rfl (by rfl) (fun K hK => ?_)
  go_simp
  refine (HCT.out _ HX1.out).mono ?_
  rintro e w2 ⟨rfl, rfl⟩
  refine hK.out _ _ s1 ?_
  clear hK K
  refine wpAnyH_take (i := 39) (v := ?_) rfl (by kernel_rfl) (by kernel_rfl) (by kernel_rfl) (fun _ _ _ h => h) (Or.inl ⟨by rfl, ?_⟩) s1 ?_
  rotate_left
  · intro w hSw; first | (obtain ⟨s1, s2, s3, s4, s5, s6, s7, s8⟩ := hSw; go_simp; rfl) | (obtain ⟨s1, s2, s3, s4, s5, s6, s7⟩ := hSw; go_simp; rfl) | (obtain ⟨s1, s2, s3⟩ := hSw; go_simp; rfl) | (obtain ⟨s1, s2⟩ := hSw; go_simp; rfl) | (have s1 := hSw; go_simp; rfl)
  go_simp
  refine wpAnyH_take (i := 40) (v := ?_) rfl (by kernel_rfl) (by kernel_rfl) (by kernel_rfl) (fun _ _ _ h => h) (Or.inl ⟨by rfl, ?_⟩) s1 ?_
  rotate_left
  · intro w hSw; first | (obtain ⟨s1, s2, s3, s4, s5, s6, s7, s8⟩ := hSw; go_simp; rfl) | (obtain ⟨s1, s2, s3, s4, s5, s6, s7⟩ := hSw; go_simp; rfl) | (obtain ⟨s1, s2, s3⟩ := hSw; go_simp; rfl) | (obtain ⟨s1, s2⟩ := hSw; go_simp; rfl) | (have s1 := hSw; go_simp; rfl)
  go_simp
  refine wpAnyH_done (by kernel_rfl) ?_ _
  clear s1
  have HR0 := Lib.hid (show Sync w1 b cb wb rb rwb rhb cs ws (ct + 0) from HS.out.keep HX1.out (fun _ _ => id))
  have HF0 := Lib.hid (HX1.out.mono (T := Six b cb wb rb rwb rhb) (fun _ _ h => h.elim))
  clear HRL heq HCT HS HI HT t1 t2 HX0 HX1 hfl hgl hrl
  go_wp2_with fail
  go_loopw [9] (fun i wr => ∃ k : Nat, k ≤ 11 ∧ i = .int .i64 k ∧ Sync wr b cb wb rb rwb rhb cs ws (ct + k) ∧ Fr (Six b cb wb rb rwb rhb) w wr) (fun i _ => 11 - (intOf i).toNat)
  case atStart => exact ⟨0, by omega, rfl, HR0.out, HF0.out⟩
  case round =>
    clear HR0 HF0
    obtain ⟨k, hk, rfl, hs, hf⟩ := hrel
    by_cases hlt : k < 11
    · have hwk := HWD.out k hlt
      have hlen := hs.m.len
      obtain ⟨e1, e2, e3, e4⟩ := acc_load_same (cs := cs) hwk (by omega)
      have hld := load_all b cb wb cs ws (cnt ws) (ct + k) k wr hs.m (by omega) (by omega)
      rw [e1, e2, e3, e4] at hld
      have hrd := fun (w' : World) (h : RefRep w' rb rwb rhb cs ws (ct + k)) => rdo_any 0 rb rwb rhb cs ws (ct + k) k 0 0 w' (by omega) h (by omega) (by omega) (by omega) (by omega)
      rw [e1, e2, e3, e4, show ((0 : Nat) : Int) = 0 from rfl] at hrd
      have hcx : cs[k]? = some (cs.getD k 0) := by rw [List.getD_eq_getElem?_getD, List.getElem?_eq_getElem (by omega)]; rfl
      have hwl : ws.length = cs.length := hlen.1.symm
      have HCX := Lib.hid hcx
      have HWL := Lib.hid hwl
      generalize cs.getD k 0 = x at hld hrd hcx HCX
      have HLD := Lib.hid hld
      have HRD := Lib.hid hrd
      have HS := Lib.hid hs
      have HF := Lib.hid hf
      have q1 : (0 : Int) ≤ (k : Int) := by omega
      have q2 : (k : Int) < 11 := by omega
      have t3 : ((x : Int) != (x : Int)) = false := by simp
      have tw : IntKind.u64.wrap (k : Int) = (k : Int) := IntWalk.u64_in _ (by omega)
      clear hld hrd hs hf hcx hwl hwk hlen e1 e2 e3 e4
      go_wp2_with fail
      refine HLD.out.mono ?_
      rintro e w2 ⟨er, rfl, hsay, hm2, hf2⟩
      obtain rfl : er = .nilIface := hsay
      have h6 := HS.out
      have hr2 : RefRep w2 rb rwb rhb cs ws (ct + k) := h6.r.keep hf2 (fun e => by rcases e.2 with e | e; exact h6.ab.1 e.symm; exact h6.ac.1 e.symm) (fun e => by rcases e.2 with e | e; exact h6.ab.2.1 e.symm; exact h6.ac.2.1 e.symm) (fun e => by rcases e.2 with e | e; exact h6.ab.2.2 e.symm; exact h6.ac.2.2 e.symm)
      have HM2 := Lib.hid hm2
      have HF2 := Lib.hid hf2
      have HR2 := Lib.hid hr2
      clear hm2 hf2 hr2 h6
      go_wp2_with fail
      refine (HRD.out w2 HR2.out).mono ?_
      rintro e w3 ⟨fl, rfl, hsay, hr3, hf3⟩
      have h6 := HS.out
      have hm3 : MemRep w3 b cb wb cs ws (cnt ws) (ct + k + 1) := HM2.out.keep hf3 (fun e => by rcases e.2 with e | e; exact h6.ab.1 e; exact h6.ab.2.2 e) (fun e => by rcases e.2 with e | e; exact h6.ac.1 e; exact h6.ac.2.2 e) (fun e => by rcases e.2 with e | e; exact h6.aw.1 e; exact h6.aw.2.2 e)
      have c1 := hr3.hd.cell 1 _ rfl
      have c2 := at_map hr3.holds HCX.out
      have hwl := HWL.out
      have hkl : k < cs.length := (List.getElem?_eq_some_iff.1 HCX.out).1
      have q3 : (k : Int) < (ws.length : Int) := by omega
      have HS3 := Lib.hid (show Sync w3 b cb wb rb rwb rhb cs ws (ct + (k + 1)) from ⟨hm3, hr3, h6.ab, h6.ac, h6.aw⟩)
      have HF3 := Lib.hid ((HF.out.trans (HF2.out.mono (fun j _ h => .inl (by rcases h.2 with h | h; exact .inl h; exact .inr (.inl h))))).trans (hf3.mono (fun j _ h => .inr (by rcases h.2 with h | h; exact .inl h; exact .inr (.inr h)))))
      clear hsay hr3 hf3 h6 hm3 HS HF HM2 HF2 HR2 HLD HRD hwl
      go_wp2_with fail
      go_roundw
      case rel => exact ⟨k + 1, by omega, by go_num, HS3.out, HF3.out⟩
      case measure => simp [intOf]; omega
    · obtain rfl : k = 11 := by omega
      have HS := Lib.hid hs
      have HF := Lib.hid hf
      clear hs hf
      go_wp2
      go_ret
      exact ⟨rfl, HS.out, HF.out⟩

end Go.Proofs.YtngpcalgjaglmaaDoor
