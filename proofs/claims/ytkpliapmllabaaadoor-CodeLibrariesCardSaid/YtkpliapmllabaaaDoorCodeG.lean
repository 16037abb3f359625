/- A client's program checked, on both sides: an error is wrapped once more. -/
import Derived.Test.YtkpliapmllabaaaDoorCodeE
import Derived.Test.YtkpliapmllabaaaDoorErrD
namespace Go.Proofs.YtkpliapmllabaaaDoor
open Go.RowKit

/-- What is said: none, or an error with its places and its kind. -/
abbrev ErrL := Option (List (ByteArray × Int) × Int)
def Tells (w : World) (v : Value) : ErrL → Prop
  | none => v = .nilIface
  | some (ps, k) => ErrIs w v ps k ∧ 1 ≤ k ∧ k ≤ 10
def TellsF (w : World) (f : Value) : ErrL → Prop
  | none => f = .pointer none
  | some (ps, k) => FailN w f ps k
theorem Tells.new {w w' : World} (f : New w w') {v : Value} : ∀ {o : ErrL}, Tells w v o → Tells w' v o
  | none, h => h
  | some (_, _), h => ⟨h.1.new f, h.2⟩
theorem TellsF.new {w w' : World} (f : New w w') {v : Value} : ∀ {o : ErrL}, TellsF w v o → TellsF w' v o
  | none, h => h
  | some (_, _), h => FailN.new f h
def onceL (o : Option (Int × Int)) : ErrL := o.map fun x => ([(codeL, x.1)], x.2)
def twiceL (o : Option (Int × Int)) : ErrL := o.map fun x => ([(codeL, x.1), (codeL, x.1)], x.2)
theorem tells_once {w : World} {v : Value} {o : Option (Int × Int)} (h : Says w codeL v o) : Tells w v (onceL o) := by
  cases o with
  | none => exact h
  | some x => exact h
theorem tellsF_once {w : World} {v : Value} {o : Option (Int × Int)} (h : SaysF w codeL v o) : TellsF w v (onceL o) := by
  cases o with
  | none => exact h
  | some x => exact failN_of h
/-- One place or two. -/
def Few : ErrL → Prop
  | none => True
  | some (ps, _) => (∃ a, ps = [a]) ∨ ∃ a b, ps = [a, b]
theorem few_once (o : Option (Int × Int)) : Few (onceL o) := by cases o with | none => trivial | some x => exact .inl ⟨_, rfl⟩
theorem few_twice (o : Option (Int × Int)) : Few (twiceL o) := by cases o with | none => trivial | some x => exact .inr ⟨_, _, rfl⟩
theorem same_tells (v f : Value) (o : ErrL) (w : World) (hg : Laid w) (hv : Tells w v o) (hf : TellsF w f o) (hw : Few o) :
    Calls Tryd.prog 12 #[v, f] w fun e w' => e = .returned (.bool true) ∧ New w w' := by
  cases o with
  | none =>
    obtain rfl : v = .nilIface := hv
    obtain rfl : f = .pointer none := hf
    exact same_nil w
  | some x =>
    obtain ⟨ps, k⟩ := x
    rcases hw with ⟨⟨l, n⟩, rfl⟩ | ⟨⟨l, n⟩, ⟨l2, n2⟩, rfl⟩
    · exact same_n v f _ k w hg hv.1 hf (by simp) (by simp) (fun w' fr => kind_1 v l n k w' (hv.1.new fr) hv.2.1 hv.2.2)
    · exact same_2 v f l l2 n n2 k w hg hv.1 hf hv.2.1 hv.2.2
set_option maxRecDepth 100000 in
set_option maxHeartbeats 1000000 in
/-- An error that is none is not what the document says of one. -/
theorem same_no (f : Value) (l : ByteArray) (n k : Int) (w : World) (hf : FailIs w f l n k) :
    Calls Tryd.prog 12 #[.nilIface, f] w fun e w' => e = .returned (.bool false) ∧ New w w' := by
  obtain ⟨b, lb, pb, lc, pc, rfl, hb, hlb, hpb⟩ := hf
  have c2 : w.cell? ⟨b, 2, none⟩ = some (.int .i64 k) := cell_of_block hb 2
  clear hb hlb hpb
  go_enter Tryd.func12, Tryd.ntmps12
  go_wp2_with fail
  go_quiet (fail)
  go_wp2
  exact bodyPost_ret (v := .bool false) (by simp [results, Tryd.results12, go_sem]) rfl ⟨rfl, (Fr.refl _ _).drewN _⟩

set_option maxRecDepth 100000 in
set_option maxHeartbeats 1000000 in
theorem as_nil (t : Nat) (w : World) : Calls Tryd.prog 29 #[.nilIface, .iface 69 (.pointer (some ⟨t, 0, none⟩))] w fun e w' => e = .returned (.bool false) ∧ w = w' := by
  go_enter Tryd.func29, Tryd.ntmps29
  go_wp2
  go_ret
  exact ⟨rfl, rfl⟩

set_option maxRecDepth 100000 in
set_option maxHeartbeats 400000 in
theorem fail_in (n k : Int) (v : Value) (ps : List (ByteArray × Int)) (w : World) (hv : ErrIs w v ps k) :
    Calls Tryd.prog 30 #[.int .i64 n, v] w fun e w' => ∃ eb, e = .returned (.iface 67 (.pointer (some ⟨eb, 0, none⟩))) ∧ ErrIs w' (.iface 67 (.pointer (some ⟨eb, 0, none⟩))) ((codeL, n) :: ps) k ∧ New w w' := by
  have HV := Lib.hid hv
  rcases errIs_form hv with ⟨k', rfl⟩ | ⟨eb, rfl⟩
  all_goals
    clear hv
    go_enter Tryd.func30, Tryd.ntmps30
    go_wp2
    go_ret
    exact ⟨_, rfl, ⟨_, _, rfl, block_alloc_new _ _, HV.out.new ((Fr.refl _ _).alloc _)⟩, (Fr.refl _ _).alloc _⟩

set_option maxRecDepth 100000 in
set_option maxHeartbeats 2000000 in
theorem checked_any (rs : List (List Int)) (ao : Option Addr) (cap : Nat) (lib : Bool) (w : World) (hg : Laid w) (hfit : ∀ r ∈ rs, RecOk insKs r) (hc : Recs insKs w ao rs) (hm : rs.length ≤ 9223372036854775807) :
    Calls Tryd.prog 33 #[.slice ao rs.length cap, .bool lib] w fun e w' => ∃ v, e = .returned v ∧ Tells w' v (twiceL (checkErr rs lib)) ∧ New w w' := by
  obtain ⟨W0, hW0⟩ : ∃ W0, w.alloc (.cells #[.pointer none] 67) = W0 := ⟨_, rfl⟩
  have hn0 : New w W0 := by rw [← hW0]; exact (Fr.refl _ _).alloc _
  have ht0 : W0.heap[w.heap.size]? = some (.cells #[.pointer none] 67 (0, 0)) := by rw [← hW0]; exact block_alloc_new _ _
  have HCK := Lib.hid (check_any rs ao cap lib W0 hfit (hc.keep hn0) hm)
  have HN0 := Lib.hid hn0
  have HT0 := Lib.hid ht0
  have HG := Lib.hid hg
  have HW0 := Lib.hid hW0
  generalize rs.length = L at HCK ⊢
  clear hn0 ht0 hg hc hfit hm hW0
  generalize checkErr rs lib = o at HCK ⊢
  go_enter Tryd.func33, Tryd.ntmps33
  go_wp2_with fail
  rw [HW0.out]
  refine HCK.out.mono ?_
  rintro e w1 ⟨v, rfl, hs, hn1⟩
  have hb1 : w1.heap[w.heap.size]? = some (.cells #[.pointer none] 67 (0, 0)) := by rw [hn1.block _ (lt_of_block HT0.out) id]; exact HT0.out
  have HN1 := Lib.hid (HN0.out.trans hn1)
  obtain ⟨t, ht⟩ : ∃ t, w.heap.size = t := ⟨_, rfl⟩
  have htw : w.heap.size ≤ t := by omega
  rw [ht] at hb1 ⊢
  cases o with
  | none =>
    obtain rfl : v = .nilIface := hs
    clear HCK hn1 HT0 HW0 hb1 ht
    go_wp2_with fail
    refine (as_nil t w1).mono ?_
    rintro e w2 ⟨rfl, rfl⟩
    go_wp2
    go_ret
    exact ⟨_, rfl, rfl, HN1.out⟩
  | some x =>
    obtain ⟨n, k⟩ := x
    obtain ⟨⟨eb, inner, rfl, heb, hin⟩, hk1, hk2⟩ := hs
    have HV := Lib.hid (show ErrIs w1 (.iface 67 (.pointer (some ⟨eb, 0, none⟩))) [(codeL, n)] k from ⟨eb, inner, rfl, heb, hin⟩)
    have HA := Lib.hid (as_hit eb t (.pointer none) w1 (HG.out.keep HN1.out id) (cell_of_block hb1 0) (free_of_block hb1 0))
    have HEB := Lib.hid heb
    have HB1 := Lib.hid hb1
    have hne : eb ≠ t := by
      rintro rfl
      rw [heb] at hb1
      simp at hb1
    clear HCK hn1 HT0 HW0 hb1 heb hin
    go_wp2_with fail
    refine HA.out.mono ?_
    rintro e w2 ⟨rfl, ht2, hf2, hfr⟩
    have hb2 : w2.heap[eb]? = some (.cells #[.string codeL, .int .i64 n, inner] 71 (0, 0)) := by rw [hfr.block eb (lt_of_block HEB.out) hne]; exact HEB.out
    have y1 : w2.cell? ⟨eb, 1, none⟩ = some (.int .i64 n) := cell_of_block hb2 1
    have hat : ∀ b c, w1.heap[b]? = some (.cells c 71 (0, 0)) → ¬ b = t := fun b c hb e => by
      subst e
      rw [HB1.out] at hb
      simp at hb
    have HV2 := Lib.hid (HV.out.keep hfr hat)
    have HN2 := Lib.hid (HN1.out.then hfr (fun i hi e => by omega))
    clear hfr hb2 HEB HA hf2 hat
    go_wp2_with fail
    refine (fail_in n k _ _ w2 HV2.out).mono ?_
    rintro e w3 ⟨eb3, rfl, he3, hn3⟩
    have HE3 := Lib.hid he3
    have HN3 := Lib.hid (HN2.out.trans hn3)
    clear he3 hn3
    go_wp2
    go_ret
    exact ⟨_, rfl, ⟨HE3.out, hk1, hk2⟩, HN3.out⟩

/-- A place in a code of so many. -/
def placeL (p n : Int) : ErrL := if p < 0 ∨ n ≤ p then some ([(codeL, max p 0)], 5) else none
theorem few_place (p n : Int) : Few (placeL p n) := by unfold placeL; split; exact .inl ⟨_, rfl⟩; trivial

set_option maxRecDepth 100000 in
set_option maxHeartbeats 400000 in
theorem place_any (p n : Int) (w : World) : Calls Tryd.prog 34 #[.int .i64 p, .int .i64 n] w fun e w' => ∃ v, e = .returned v ∧ Tells w' v (placeL p n) ∧ New w w' := by
  by_cases h1 : p < 0
  · have hx : max p 0 = 0 := by omega
    have HP := Lib.hid (show placeL p n = some ([(codeL, 0)], 5) by unfold placeL; rw [if_pos (.inl h1), hx])
    go_enter Tryd.func34, Tryd.ntmps34
    go_wp2_with (go_at_call 30; refine (fail_any _ _ _ (by omega) (by omega)).mono ?_; rintro e w' ⟨eb, rfl, he, hn⟩)
    go_ret
    exact ⟨_, rfl, by rw [HP.out]; exact tells_once he, hn⟩
  · by_cases h2 : n ≤ p
    · have hx : max p 0 = p := by omega
      have HP := Lib.hid (show placeL p n = some ([(codeL, p)], 5) by unfold placeL; rw [if_pos (.inr h2), hx])
      go_enter Tryd.func34, Tryd.ntmps34
      go_wp2_with (go_at_call 30; refine (fail_any _ _ _ (by omega) (by omega)).mono ?_; rintro e w' ⟨eb, rfl, he, hn⟩)
      go_ret
      exact ⟨_, rfl, by rw [HP.out]; exact tells_once he, hn⟩
    · have HP := Lib.hid (show placeL p n = none by unfold placeL; rw [if_neg (by omega)])
      go_enter Tryd.func34, Tryd.ntmps34
      go_wp2
      go_ret
      exact ⟨_, rfl, by rw [HP.out]; rfl, Fr.refl _ _⟩

set_option maxRecDepth 100000 in
set_option maxHeartbeats 1000000 in
theorem again_any (rs : List (List Int)) (ao : Option Addr) (cap : Nat) (lib : Bool) (w : World) (hfit : ∀ r ∈ rs, RecOk insKs r) (hc : Recs insKs w ao rs) (hm : rs.length ≤ 9223372036854775807) :
    Calls Tryd.prog 35 #[.slice ao rs.length cap, .bool lib] w fun e w' => ∃ v, e = .returned v ∧ TellsF w' v (twiceL (checkErr rs lib)) ∧ New w w' := by
  have HCK := Lib.hid (rcheck_any rs ao cap lib w hfit hc hm)
  generalize rs.length = L at HCK ⊢
  clear hc hfit hm
  generalize checkErr rs lib = o at HCK ⊢
  go_enter Tryd.func35, Tryd.ntmps35
  go_wp2_with fail
  refine HCK.out.mono ?_
  rintro e w1 ⟨v, rfl, hs, hn1⟩
  have HN1 := Lib.hid hn1
  cases o with
  | none =>
    obtain rfl : v = .pointer none := hs
    clear HCK hn1
    go_wp2
    go_ret
    exact ⟨_, rfl, rfl, HN1.out⟩
  | some x =>
    obtain ⟨n, k⟩ := x
    have hfn := failN_of hs
    obtain ⟨b, lb, pb, lc, pc, rfl, h1, h2, h3⟩ := hs
    have c1 : w1.cell? ⟨b, 1, none⟩ = some (.slice (some ⟨pb, 0, none⟩) 1 pc) := cell_of_block h1 1
    have cp : w1.cell? ⟨pb, 0, none⟩ = some (.int .i64 n) := cell_of_block h3 0
    have HIN := Lib.hid (in_any codeL n _ _ k w1 hfn (by simp))
    clear HCK hn1 hfn h1 h2 h3
    go_wp2_with fail
    refine HIN.out.mono ?_
    rintro e w2 ⟨f', rfl, hf2, hn2⟩
    have HF2 := Lib.hid hf2
    have HN2 := Lib.hid (HN1.out.trans hn2)
    clear hf2 hn2
    go_wp2
    go_ret
    exact ⟨_, rfl, HF2.out, HN2.out⟩

/-- What is said of a client's program. -/
def clientL (rs : List (List Int)) (E W N : Int) : ErrL :=
  if W < 0 ∨ N < 0 ∨ 256 < W ∨ 256 - W < N ∨ rs.length = 0 then some ([(codeL, 0)], 1) else match checkErr rs false with | some x => twiceL (some x) | none => placeL E rs.length
theorem few_client (rs : List (List Int)) (E W N : Int) : Few (clientL rs E W N) := by
  unfold clientL
  split
  · exact .inl ⟨_, rfl⟩
  · split
    · exact few_twice _
    · exact few_place _ _
theorem errIs_ne {w : World} {v : Value} {ps : List (ByteArray × Int)} {k : Int} (h : ErrIs w v ps k) : (∃ k', v = .iface 44 (.int .i64 k')) ∨ ∃ eb, v = .iface 67 (.pointer (some ⟨eb, 0, none⟩)) := errIs_form h

set_option maxRecDepth 100000 in
set_option maxHeartbeats 4000000 in
theorem client_any (rs : List (List Int)) (ao : Option Addr) (cap : Nat) (E W N : Int) (w : World) (hg : Laid w) (hfit : ∀ r ∈ rs, RecOk insKs r) (hc : Recs insKs w ao rs) (hm : rs.length ≤ 9223372036854775807)
    (hE : -9223372036854775808 ≤ E ∧ E ≤ 9223372036854775807) (hW : -9223372036854775808 ≤ W ∧ W ≤ 9223372036854775807) (hN : -9223372036854775808 ≤ N ∧ N ≤ 9223372036854775807) :
    Calls Tryd.prog 23 #[.agg #[.slice ao rs.length cap, .int .i64 E, .int .i64 W, .int .i64 N]] w fun e w' => ∃ v, e = .returned v ∧ Tells w' v (clientL rs E W N) ∧ New w w' := by
  unfold clientL
  have HCK := Lib.hid (fun (w' : World) (f : New w w') => checked_any rs ao cap false w' (hg.keep f id) hfit (hc.keep f) hm)
  obtain ⟨L, hL⟩ : ∃ L, rs.length = L := ⟨_, rfl⟩
  rw [hL] at HCK hm ⊢
  generalize checkErr rs false = o at HCK ⊢
  clear hg hfit hc hL
  by_cases hb : W < 0 ∨ N < 0 ∨ 256 < W ∨ 256 - W < N ∨ L = 0
  · rw [if_pos hb]
    have hw : W < 0 ∨ (0 ≤ W ∧ N < 0) ∨ (0 ≤ W ∧ 0 ≤ N ∧ 256 < W) ∨ (0 ≤ W ∧ 0 ≤ N ∧ W ≤ 256 ∧ 256 - W < N) ∨ (0 ≤ W ∧ 0 ≤ N ∧ W ≤ 256 ∧ N ≤ 256 - W ∧ L = 0) := by omega
    clear hb HCK
    rcases hw with h1 | ⟨h1, h2⟩ | ⟨h1, h2, h3⟩ | ⟨h1, h2, h3, h4⟩ | ⟨h1, h2, h3, h4, rfl⟩
    all_goals
      go_enter Tryd.func23, Tryd.ntmps23
      go_wp2_with (go_at_call 30; refine (fail_any _ _ _ (by omega) (by omega)).mono ?_; rintro e w' ⟨eb, rfl, he, hn⟩)
      go_ret
      exact ⟨_, rfl, tells_once (o := some (0, 1)) he, ((Fr.refl _ _).alloc _).trans hn⟩
  · rw [if_neg hb]
    have h1 : 0 ≤ W := by omega
    have h2 : 0 ≤ N := by omega
    have h3 : W ≤ 256 := by omega
    have h4 : N ≤ 256 - W := by omega
    have h5 : ((L : Int) == 0) = false := by rw [beq_eq_false_iff_ne]; omega
    clear hb
    have HPL := Lib.hid (fun (w' : World) => place_any E L w')
    go_enter Tryd.func23, Tryd.ntmps23
    go_wp2_with fail
    obtain ⟨W0, hW0⟩ : ∃ W0, w.alloc (.cells #[.slice ao L cap, .int .i64 E, .int .i64 W, .int .i64 N] 49) = W0 := ⟨_, rfl⟩
    have hn0 : New w W0 := by rw [← hW0]; exact (Fr.refl _ _).alloc _
    have hx0 : Arr W0 w.heap.size [.slice ao L cap, .int .i64 E, .int .i64 W, .int .i64 N] := by rw [← hW0]; exact Arr.new _ _ _
    rw [hW0]
    refine (HCK.out W0 hn0).mono ?_
    rintro e w1 ⟨v, rfl, hs, hn1⟩
    have c0 : w1.cell? ⟨w.heap.size, 0, none⟩ = some (.slice ao L cap) := (hx0.keep hn1 id).cell 0 _ rfl
    have c1 : w1.cell? ⟨w.heap.size, 1, none⟩ = some (.int .i64 E) := (hx0.keep hn1 id).cell 1 _ rfl
    have HN1 := Lib.hid (hn0.trans hn1)
    clear hn0 hx0 hn1 hW0 HCK
    cases o with
    | none =>
      obtain rfl : v = .nilIface := hs
      go_wp2_with fail
      refine (HPL.out w1).mono ?_
      rintro e w2 ⟨v2, rfl, h6, hn2⟩
      have H6 := Lib.hid h6
      have HN2 := Lib.hid (HN1.out.trans hn2)
      clear h6 hn2
      go_wp2
      go_ret
      exact ⟨_, rfl, H6.out, HN2.out⟩
    | some x =>
      have HS := Lib.hid hs
      rcases errIs_form hs.1 with ⟨k', rfl⟩ | ⟨eb, rfl⟩
      all_goals
        clear hs
        go_wp2
        go_ret
        exact ⟨_, rfl, HS.out, HN1.out⟩

set_option maxRecDepth 100000 in
set_option maxHeartbeats 4000000 in
theorem rclient_any (rs : List (List Int)) (ao : Option Addr) (cap : Nat) (E W N : Int) (w : World) (hfit : ∀ r ∈ rs, RecOk insKs r) (hc : Recs insKs w ao rs) (hm : rs.length ≤ 9223372036854775807)
    (hE : -9223372036854775808 ≤ E ∧ E ≤ 9223372036854775807) (hW : -9223372036854775808 ≤ W ∧ W ≤ 9223372036854775807) (hN : -9223372036854775808 ≤ N ∧ N ≤ 9223372036854775807) :
    Calls Tryd.prog 24 #[.agg #[.slice ao rs.length cap, .int .i64 E, .int .i64 W, .int .i64 N]] w fun e w' => ∃ v, e = .returned v ∧ TellsF w' v (clientL rs E W N) ∧ New w w' := by
  unfold clientL placeL
  have HCK := Lib.hid (fun (w' : World) (f : New w w') => again_any rs ao cap false w' hfit (hc.keep f) hm)
  obtain ⟨L, hL⟩ : ∃ L, rs.length = L := ⟨_, rfl⟩
  rw [hL] at HCK hm ⊢
  generalize checkErr rs false = o at HCK ⊢
  clear hfit hc hL
  by_cases hb : W < 0 ∨ N < 0 ∨ 256 < W ∨ 256 - W < N ∨ L = 0
  · rw [if_pos hb]
    have hw : W < 0 ∨ (0 ≤ W ∧ N < 0) ∨ (0 ≤ W ∧ 0 ≤ N ∧ 256 < W) ∨ (0 ≤ W ∧ 0 ≤ N ∧ W ≤ 256 ∧ 256 - W < N) ∨ (0 ≤ W ∧ 0 ≤ N ∧ W ≤ 256 ∧ N ≤ 256 - W ∧ L = 0) := by omega
    clear hb HCK
    rcases hw with h1 | ⟨h1, h2⟩ | ⟨h1, h2, h3⟩ | ⟨h1, h2, h3, h4⟩ | ⟨h1, h2, h3, h4, rfl⟩
    all_goals
      go_enter Tryd.func24, Tryd.ntmps24
      go_wp2_with (go_at_call 20; refine (no_says codeL 0 1 _).mono ?_; rintro e w' ⟨f, rfl, he, hn⟩)
      go_ret
      exact ⟨_, rfl, tellsF_once (o := some (0, 1)) he, ((Fr.refl _ _).alloc _).trans hn⟩
  · rw [if_neg hb]
    have h1 : 0 ≤ W := by omega
    have h2 : 0 ≤ N := by omega
    have h3 : W ≤ 256 := by omega
    have h4 : N ≤ 256 - W := by omega
    have h5 : ((L : Int) == 0) = false := by rw [beq_eq_false_iff_ne]; omega
    clear hb
    go_enter Tryd.func24, Tryd.ntmps24
    go_wp2_with fail
    obtain ⟨W0, hW0⟩ : ∃ W0, w.alloc (.cells #[.slice ao L cap, .int .i64 E, .int .i64 W, .int .i64 N] 49) = W0 := ⟨_, rfl⟩
    have hn0 : New w W0 := by rw [← hW0]; exact (Fr.refl _ _).alloc _
    have hx0 : Arr W0 w.heap.size [.slice ao L cap, .int .i64 E, .int .i64 W, .int .i64 N] := by rw [← hW0]; exact Arr.new _ _ _
    rw [hW0]
    refine (HCK.out W0 hn0).mono ?_
    rintro e w1 ⟨v, rfl, hs, hn1⟩
    have c0 : w1.cell? ⟨w.heap.size, 0, none⟩ = some (.slice ao L cap) := (hx0.keep hn1 id).cell 0 _ rfl
    have c1 : w1.cell? ⟨w.heap.size, 1, none⟩ = some (.int .i64 E) := (hx0.keep hn1 id).cell 1 _ rfl
    have HN1 := Lib.hid (hn0.trans hn1)
    clear hn0 hx0 hn1 hW0 HCK
    cases o with
    | none =>
      obtain rfl : v = .pointer none := hs
      by_cases h6 : E < 0
      · have hx : max E 0 = 0 := by omega
        simp only [if_pos (Or.inl h6 : E < 0 ∨ (L : Int) ≤ E), hx]
        go_wp2_with (go_at_call 20; refine (no_says codeL 0 5 _).mono ?_; rintro e w' ⟨f, rfl, he, hn⟩)
        go_ret
        exact ⟨_, rfl, tellsF_once (o := some (0, 5)) he, HN1.out.trans hn⟩
      · by_cases h7 : (L : Int) ≤ E
        · have hx : max E 0 = E := by omega
          simp only [if_pos (Or.inr h7 : E < 0 ∨ (L : Int) ≤ E), hx]
          go_wp2_with (go_at_call 20; refine (no_says codeL E 5 _).mono ?_; rintro e w' ⟨f, rfl, he, hn⟩)
          go_ret
          exact ⟨_, rfl, tellsF_once (o := some (E, 5)) he, HN1.out.trans hn⟩
        · simp only [if_neg (show ¬ (E < 0 ∨ (L : Int) ≤ E) by omega)]
          go_wp2
          go_ret
          exact ⟨_, rfl, rfl, HN1.out⟩
    | some x =>
      have HS := Lib.hid hs
      obtain ⟨b, lb, pb, lc, pc, rfl, _⟩ := hs
      go_wp2
      go_ret
      exact ⟨_, rfl, HS.out, HN1.out⟩

end Go.Proofs.YtkpliapmllabaaaDoor
