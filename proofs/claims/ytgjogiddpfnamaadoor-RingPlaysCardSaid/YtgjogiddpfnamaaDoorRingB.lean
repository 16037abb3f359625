/- A ring: putting in, taking out, dropping. -/
import Derived.Test.YtgjogiddpfnamaaDoorRingP
import Derived.Test.YtgjogiddpfnamaaDoorStill
import Derived.Deep.LoopGhost
namespace Go.Proofs.YtgjogiddpfnamaaDoor
open Go.RowKit

theorem set_cells {w : World} {lb p : Nat} {cs : List Nat} (h : Arr w lb (cs.map fun x : Nat => .int .u64 x)) (x : Nat) : Arr (w.setCell ⟨lb, p, none⟩ (.int .u64 x)) lb ((cs.set p x).map fun x : Nat => .int .u64 x) := by
  rw [List.map_set]; exact h.set p _
theorem RingRep.store {w : World} {b lb : Nat} {cs : List Nat} {f n : Nat} (h : RingRep w b lb cs f n) (p x : Nat) (hx : x < 18446744073709551616) : RingRep (w.setCell ⟨lb, p, none⟩ (.int .u64 x)) b lb (cs.set p x) f n :=
  ⟨h.ne, by rw [List.length_set]; exact h.hd.setNe (fun e => h.ne e.symm) _, set_cells h.cells x, by rw [List.length_set]; exact h.pos, by rw [List.length_set]; exact h.len, fun y hy => by
    rcases List.mem_or_eq_of_mem_set hy with h1 | rfl
    · exact h.fits y h1
    · exact hx⟩
theorem RingRep.many {w : World} {b lb : Nat} {cs : List Nat} {f n : Nat} (h : RingRep w b lb cs f n) (k : Nat) (hk : k ≤ cs.length) {x : Int} (hx : x = k) : RingRep (w.setCell ⟨b, 2, none⟩ (.int .i64 x)) b lb cs f k := by
  subst hx
  exact ⟨h.ne, h.hd.set 2 _, h.cells.setNe h.ne _, h.pos, ⟨hk, h.len.2⟩, h.fits⟩
theorem RingRep.turn {w : World} {b lb : Nat} {cs : List Nat} {f n : Nat} (h : RingRep w b lb cs f n) (k : Nat) (hk : k < cs.length) {x : Int} (hx : x = k) : RingRep (w.setCell ⟨b, 1, none⟩ (.int .i64 x)) b lb cs k n := by
  subst hx
  exact ⟨h.ne, h.hd.set 1 _, h.cells.setNe h.ne _, hk, h.len, h.fits⟩
abbrev inRing (b lb : Nat) : Nat → Prop := fun k => k = b ∨ k = lb

set_option maxRecDepth 100000 in
set_option maxHeartbeats 1000000 in
theorem put_ok (b lb : Nat) (cs : List Nat) (f n v : Nat) (w : World) (h : RingRep w b lb cs f n) (hn : n < cs.length) (hv : v < 18446744073709551616) :
    Calls Tryd.prog 12 #[.pointer (some ⟨b, 0, none⟩), .int .u64 v] w fun e w' => e = .returned .nilIface ∧ RingRep w' b lb (cs.set ((f + n) % cs.length) v) f (n + 1) ∧ Fr (inRing b lb) w w' := by
  have c0 := h.hd.cell 0 _ rfl
  have c2 := h.hd.cell 2 _ rfl
  have l1 := h.hd.lt
  have hl := h.len
  have t1 : ((n : Int) == (cs.length : Int)) = false := beq_eq_false_iff_ne.2 (by omega)
  have H := Lib.hid h
  clear h
  go_enter Tryd.func12, Tryd.ntmps12
  go_wp2_with fail
  go_quiet (fail)
  have f0 : New w (w.drewN nq) := (Fr.refl _ _).drewN nq
  generalize w.drewN nq = w0 at f0 ⊢
  have h0 := H.out.keep f0 id id
  have d2 := h0.hd.cell 2 _ rfl
  have HA := Lib.hid (at_any b lb cs f n n w0 h0 (by omega))
  have H0 := Lib.hid h0
  have F0 := Lib.hid f0
  clear c0 c2 h0 f0 H l1
  have l1 := H0.out.hd.lt
  go_wp2_with fail
  refine HA.out.mono ?_
  rintro e w1 ⟨rfl, hn1⟩
  have h1 := H0.out.keep hn1 id id
  have d2 := h1.hd.cell 2 _ rfl
  have l1 := h1.hd.lt
  have l2 := h1.cells.lt
  have hb := h1.ne
  have z1 := h1.hd.free 2
  obtain ⟨p, hp⟩ : ∃ p, (f + n) % cs.length = p := ⟨_, rfl⟩
  have hlt : p < cs.length := by rw [← hp]; exact Nat.mod_lt _ (by omega)
  rw [hp]
  have cp := at_map h1.cells (getD_get hlt)
  have zp := h1.cells.free p
  have H1 := Lib.hid h1
  have F1 := Lib.hid (F0.out.trans hn1)
  have HP := Lib.hid hp
  clear h1 hn1 F0 H0 HA hp
  go_wp2
  go_ret
  exact ⟨rfl, by rw [HP.out]; exact (H1.out.store p v hv).many (x := (n : Int) + 1) (n + 1) (by rw [List.length_set]; omega) (by omega), ((F1.out.mono (fun _ _ h => h.elim)).setCell (fun _ => .inr rfl) _).setCell (fun _ => .inl rfl) _⟩

set_option maxRecDepth 100000 in
set_option maxHeartbeats 1000000 in
theorem put_full (b lb : Nat) (cs : List Nat) (f n v : Nat) (w : World) (h : RingRep w b lb cs f n) (hn : n = cs.length) :
    Calls Tryd.prog 12 #[.pointer (some ⟨b, 0, none⟩), .int .u64 v] w fun e w' => ∃ eb, e = .returned (.iface 57 (.pointer (some ⟨eb, 0, none⟩))) ∧ ErrAt w' eb 3 ∧ New w w' := by
  have c0 := h.hd.cell 0 _ rfl
  have c2 := h.hd.cell 2 _ rfl
  have l1 := h.hd.lt
  have t1 : ((n : Int) == (cs.length : Int)) = true := by rw [hn]; simp
  clear h hn
  go_enter Tryd.func12, Tryd.ntmps12
  go_wp2_with fail
  go_quiet (fail)
  have f0 : New w (w.drewN nq) := (Fr.refl _ _).drewN nq
  generalize w.drewN nq = w0 at f0 ⊢
  clear c0 c2
  go_wp2
  go_ret
  exact ⟨_, rfl, block_alloc_new _ _, f0.alloc _⟩

set_option maxRecDepth 100000 in
set_option maxHeartbeats 1000000 in
theorem take_nil (b lb : Nat) (cs : List Nat) (f : Nat) (w : World) (h : RingRep w b lb cs f 0) :
    Calls Tryd.prog 13 #[.pointer (some ⟨b, 0, none⟩)] w fun e w' => e = .returned (.tuple #[.int .u64 0, .bool false]) ∧ w = w' := by
  have c2 := h.hd.cell 2 _ rfl
  have l1 := h.hd.lt
  rw [show (((0 : Nat)) : Int) = 0 from rfl] at c2
  clear h
  go_enter Tryd.func13, Tryd.ntmps13
  go_wp2
  go_ret2
  exact ⟨rfl, rfl⟩

set_option maxRecDepth 100000 in
set_option maxHeartbeats 1000000 in
theorem take_ok (b lb : Nat) (cs : List Nat) (f n : Nat) (w : World) (h : RingRep w b lb cs f (n + 1)) :
    Calls Tryd.prog 13 #[.pointer (some ⟨b, 0, none⟩)] w fun e w' => e = .returned (.tuple #[.int .u64 (cs.getD f 0), .bool true]) ∧ RingRep w' b lb cs ((f + 1) % cs.length) n ∧ Fr (inRing b lb) w w' := by
  obtain ⟨x, hx⟩ : ∃ x, cs.getD f 0 = x := ⟨_, rfl⟩
  obtain ⟨m, hm⟩ : ∃ m, cs.length = m := ⟨_, rfl⟩
  obtain ⟨p, hq⟩ : ∃ p, (f + 1) % m = p := ⟨_, rfl⟩
  rw [hx, hm, hq]
  have HX := Lib.hid hx
  clear hx
  have c2 := h.hd.cell 2 _ rfl
  have l1 := h.hd.lt
  have hl := h.len
  have hf := h.pos
  have HF := Lib.hid hf
  have HM := Lib.hid hm
  have HQ := Lib.hid hq
  clear hm hq
  have t1 : ((n : Int) + 1 == 0) = false := beq_eq_false_iff_ne.2 (by omega)
  have ha := at_any b lb cs f (n + 1) 0 w h (by omega)
  rw [show (((0 : Nat)) : Int) = 0 from rfl, Nat.add_zero, Nat.mod_eq_of_lt hf] at ha
  have HA := Lib.hid ha
  clear ha
  have H := Lib.hid h
  clear h
  go_enter Tryd.func13, Tryd.ntmps13
  go_wp2_with fail
  refine HA.out.mono ?_
  rintro e w1 ⟨rfl, hn1⟩
  have h1 := H.out.keep hn1 id id
  have cp := at_map h1.cells (getD_get HF.out)
  rw [HX.out] at cp
  have c0 := h1.hd.cell 0 _ rfl
  have c1 := h1.hd.cell 1 _ rfl
  have c2 := h1.hd.cell 2 _ rfl
  have z1 := h1.hd.free 1
  have z2 := h1.hd.free 2
  have l1 := h1.hd.lt
  have l2 := h1.cells.lt
  rw [HM.out] at c0 hl hf
  have hlt : p < m := by rw [← HQ.out]; exact Nat.mod_lt _ (by omega)
  have hr : ((f : Int) + 1).tmod (m : Int) = (p : Int) := by rw [Int.tmod_eq_emod_of_nonneg (by omega), ← HQ.out]; rfl
  have hz : ((m : Int) == 0) = false := beq_eq_false_iff_ne.2 (by omega)
  have hm0 : ¬ m = 0 := by omega
  have hw1 : IntKind.i64.wrap (p : Int) = (p : Int) := IntWalk.i64_in _ (by omega)
  have hd : IntKind.i64.wrap ((f : Int) + 1) = (f : Int) + 1 := IntWalk.i64_in _ (by omega)
  have H1 := Lib.hid h1
  have F1 := Lib.hid hn1
  clear h1 hn1 H HA
  go_wp2_with fail
  obtain ⟨W2, hW2⟩ : ∃ W2, w1.drew = W2 := ⟨_, rfl⟩
  have f2 : New w1 W2 := by rw [← hW2]; exact (Fr.refl _ _).drew
  have h2 := H1.out.keep f2 id id
  have F2 := Lib.hid (F1.out.trans f2)
  have c0 := h2.hd.cell 0 _ rfl
  have c1 := h2.hd.cell 1 _ rfl
  have c2 := h2.hd.cell 2 _ rfl
  have z1 := h2.hd.free 1
  have z2 := h2.hd.free 2
  have l1 := h2.hd.lt
  rw [HM.out] at c0
  refine stillTail 14 (by kernel_rfl) (by kernel_rfl) hW2 ?_
  have H2 := Lib.hid h2
  clear hW2 h2 f2 F1 H1
  simp only [List.take_succ_cons, List.take_zero, List.drop_succ_cons, List.drop_zero]
  repeat still_step
  refine wpStill_nil ?_
  go_wp2
  go_ret2
  exact ⟨rfl, (H2.out.turn p (by rw [HM.out]; exact hlt) rfl).many (x := (n : Int)) n (by rw [HM.out]; omega) rfl, ((F2.out.mono (fun _ _ h => h.elim)).setCell (fun _ => .inl rfl) _).setCell (fun _ => .inl rfl) _⟩

theorem erase_first : ∀ {L : List Nat} {q v : Nat}, L[q]? = some v → (∀ j x, j < q → L[j]? = some x → x ≠ v) → L.erase v = L.eraseIdx q ∧ L.contains v = true
  | [], q, v, h, _ => by simp at h
  | a :: r, 0, v, h, _ => by
    obtain rfl : a = v := by simpa using h
    simp
  | a :: r, q + 1, v, h, hn => by
    have ha : a ≠ v := hn 0 a (by omega) rfl
    obtain ⟨h1, h2⟩ := erase_first (L := r) (q := q) (v := v) (by simpa using h) (fun j x hj hx => hn (j + 1) x (by omega) (by simpa using hx))
    refine ⟨?_, ?_⟩
    · rw [List.erase_cons_tail (by simpa using ha), h1]; rfl
    · simp at h2 ⊢; exact .inr h2
theorem erase_never {L : List Nat} {v : Nat} (h : ∀ (j x : Nat), L[j]? = some x → x ≠ v) : L.erase v = L ∧ L.contains v = false := by
  have hm : v ∉ L := fun hv => by
    obtain ⟨j, hj⟩ := List.mem_iff_getElem?.1 hv
    exact h j v hj rfl
  exact ⟨List.erase_of_not_mem hm, by simpa using hm⟩

set_option maxRecDepth 100000 in
set_option maxHeartbeats 2000000 in
theorem drop_any (b lb : Nat) (cs : List Nat) (f n v : Nat) (w : World) (h : RingRep w b lb cs f n) (hv : v < 18446744073709551616) :
    Calls Tryd.prog 17 #[.pointer (some ⟨b, 0, none⟩), .int .u64 v] w fun e w' => e = .returned (.bool ((ringL cs f n).contains v)) ∧ (∃ cs', cs'.length = cs.length ∧ ringL cs' f ((ringL cs f n).erase v).length = (ringL cs f n).erase v ∧ RingRep w' b lb cs' f ((ringL cs f n).erase v).length) ∧ Fr (inRing b lb) w w' := by
  have c2 := h.hd.cell 2 _ rfl
  have l1 := h.hd.lt
  have hl := h.len
  have hf := h.pos
  obtain ⟨L, hL⟩ : ∃ L, ringL cs f n = L := ⟨_, rfl⟩
  rw [hL]
  have hLn : L.length = n := by rw [← hL, ringL_len]
  have HL := Lib.hid hL
  have HLN := Lib.hid hLn
  have H := Lib.hid h
  clear hL h hLn
  go_enter Tryd.func17, Tryd.ntmps17
  go_wp2_with fail
  go_loopg [11] n (fun g i wr => ∃ q : Nat, q ≤ n ∧ g = n - q ∧ i = .int .i64 q ∧ RingRep wr b lb cs f n ∧ Fr (inRing b lb) w wr ∧ ∀ j, j < q → cs.getD ((f + j) % cs.length) 0 ≠ v)
  case atStart => exact ⟨0, by omega, by omega, rfl, H.out, Fr.refl _ _, fun j hj => by omega⟩
  case round =>
    obtain ⟨q, hq, rfl, rfl, hr, hfr, hno⟩ := hrel
    have HR := Lib.hid hr
    have HFR := Lib.hid hfr
    have HNO := Lib.hid hno
    clear hno hfr c2 l1
    by_cases hlt : q < n
    · have HA := Lib.hid (at_any b lb cs f n q wr hr (by omega))
      clear hr
      go_wp2_with fail
      refine HA.out.mono ?_
      rintro e w1 ⟨rfl, hn1⟩
      have h1 := HR.out.keep hn1 id id
      have F1 := Lib.hid (HFR.out.trans (hn1.mono (fun _ _ h => h.elim)))
      obtain ⟨p, hp⟩ : ∃ p, (f + q) % cs.length = p := ⟨_, rfl⟩
      have hplt : p < cs.length := by rw [← hp]; exact Nat.mod_lt _ (by omega)
      rw [hp]
      have cp := at_map h1.cells (getD_get hplt)
      obtain ⟨x, hx⟩ : ∃ x, cs.getD p 0 = x := ⟨_, rfl⟩
      rw [hx] at cp
      have HX := Lib.hid hx
      have HP := Lib.hid hp
      have l2 := h1.cells.lt
      clear hx hp hn1 HA HR
      by_cases hxv : x = v
      · have t1 : ((x : Int) != (v : Int)) = false := by rw [hxv]; simp
        have HXV := Lib.hid hxv
        have H1 := Lib.hid h1
        clear hxv h1
        go_wp2_with fail
        go_loopg [6] n (fun g i wr => ∃ k : Nat, q + k + 1 ≤ n ∧ g = n - k ∧ i = .int .i64 ((q + k : Nat) : Int) ∧ RingRep wr b lb (shiftTo cs f q k) f n ∧ Fr (inRing b lb) w wr)
        case atStart => exact ⟨0, by omega, by omega, rfl, H1.out, F1.out⟩
        case round =>
          obtain ⟨k, hk, rfl, rfl, hr, hfr⟩ := hrel
          have d2 := hr.hd.cell 2 _ rfl
          have l1 := hr.hd.lt
          have HR := Lib.hid hr
          have HFR2 := Lib.hid hfr
          clear hfr
          by_cases hkl : q + k + 1 < n
          · have HA := Lib.hid (at_z b lb (shiftTo cs f q k) f n (q + k) ((q : Int) + k) wr hr (by omega) (by omega))
            clear hr
            go_wp2_with fail
            refine HA.out.mono ?_
            rintro e w2 ⟨rfl, hn2⟩
            have h2 := HR.out.keep hn2 id id
            have F2 := Lib.hid (HFR2.out.trans (hn2.mono (fun _ _ h => h.elim)))
            have HB := Lib.hid (at_z b lb (shiftTo cs f q k) f n (q + k + 1) ((q : Int) + k + 1) w2 h2 (by omega) (by omega))
            have H2 := Lib.hid h2
            clear h2 hn2 HA HR d2 l1 HFR2
            go_wp2_with fail
            refine HB.out.mono ?_
            rintro e w3 ⟨rfl, hn3⟩
            have h3 := H2.out.keep hn3 id id
            have F3 := Lib.hid (F2.out.trans (hn3.mono (fun _ _ h => h.elim)))
            have hsl := shiftTo_len cs f q k
            rw [hsl]
            obtain ⟨p1, hp1⟩ : ∃ p, (f + (q + k)) % cs.length = p := ⟨_, rfl⟩
            obtain ⟨p2, hp2⟩ : ∃ p, (f + (q + k + 1)) % cs.length = p := ⟨_, rfl⟩
            rw [hp1, hp2]
            have hlt1 : p1 < (shiftTo cs f q k).length := by rw [hsl, ← hp1]; exact Nat.mod_lt _ (by omega)
            have hlt2 : p2 < (shiftTo cs f q k).length := by rw [hsl, ← hp2]; exact Nat.mod_lt _ (by omega)
            have cp1 := at_map h3.cells (getD_get hlt1)
            have cp2 := at_map h3.cells (getD_get hlt2)
            have zp1 := h3.cells.free p1
            have l3 := h3.cells.lt
            obtain ⟨y, hy⟩ : ∃ y, (shiftTo cs f q k).getD p2 0 = y := ⟨_, rfl⟩
            rw [hy] at cp2
            have hyf : y < 18446744073709551616 := by rw [← hy]; exact h3.fits _ (List.mem_of_getElem? (getD_get hlt2))
            have hst := h3.store p1 y hyf
            have hsh : shiftTo cs f q (k + 1) = (shiftTo cs f q k).set p1 y := by rw [← hp1, ← hy, ← hp2]; rfl
            rw [← hsh] at hst
            have HST := Lib.hid hst
            clear hst hsh hyf hy hp1 hp2 hsl hlt1 hlt2 h3 hn3 H2 F2 HB
            go_wp2_with fail
            go_roundg (n - (k + 1))
            case measure => omega
            case rel => exact ⟨k + 1, by omega, rfl, by go_num, HST.out, F3.out.setCell (fun _ => .inr rfl) _⟩
          · have z2 := hr.hd.free 2
            have hk' : k = n - 1 - q := by omega
            have HK := Lib.hid hk'
            clear hk' hr
            go_wp2
            go_ret
            have hrd := ringL_drop cs f n q hf hl.1 (by omega)
            obtain ⟨e1, e2⟩ := erase_first (L := L) (q := q) (v := v) (by rw [← HL.out, ringL_get _ _ _ _ hlt, HP.out, HX.out, HXV.out]) (fun j x hj hx => by
              rw [← HL.out, ringL_get _ _ _ _ (by omega)] at hx
              have := HNO.out j hj
              rw [← Option.some.inj hx]; exact this)
            have e3 : (L.erase v).length = n - 1 := by rw [e1, List.length_eraseIdx, HLN.out, if_pos hlt]
            refine ⟨ret_bool e2.symm, ⟨shiftTo cs f q k, shiftTo_len cs f q k, ?_, ?_⟩, HFR2.out.setCell (fun _ => .inl rfl) _⟩
            · rw [e3, e1, HK.out, hrd, HL.out]
            · rw [e3]; exact HR.out.many (n - 1) (by rw [shiftTo_len]; omega) (by omega)
      · have t1 : ((x : Int) != (v : Int)) = true := by rw [bne_iff_ne]; omega
        have H1 := Lib.hid h1
        clear h1
        go_wp2_with fail
        go_roundg (n - (q + 1))
        case measure => omega
        case rel => exact ⟨q + 1, by omega, rfl, by go_num, H1.out, F1.out, fun j hj => by
          by_cases e : j = q
          · subst e; rw [HP.out, HX.out]; exact hxv
          · exact HNO.out j (by omega)⟩
    · clear hr
      go_wp2
      go_ret
      obtain ⟨e1, e2⟩ := erase_never (L := L) (v := v) (fun j x hx => by
        have hj : j < n := by rw [← HLN.out]; exact (List.getElem?_eq_some_iff.1 hx).1
        rw [← HL.out, ringL_get _ _ _ _ hj] at hx
        rw [← Option.some.inj hx]; exact HNO.out j (by omega))
      refine ⟨ret_bool e2.symm, ⟨cs, rfl, ?_, ?_⟩, HFR.out⟩
      · rw [e1, HLN.out]; exact HL.out
      · rw [e1, HLN.out]; exact HR.out

end Go.Proofs.YtgjogiddpfnamaaDoor
