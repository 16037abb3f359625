/- Blocks in a room of one's own: given back, the widest row, the statements' room and example. -/
import Derived.Test.YtlmjogfjhngcoaaDoorAllocF
namespace Go.Proofs.YtlmjogfjhngcoaaDoor
open Go.RowKit

/-- What Put answers where nobody else has cells. -/
def pE (l : List Bk) (p : Int) : ErrL := match posI l p with | none => some ([(alL, p)], 4) | some _ => none
def pL (l : List Bk) (p : Int) : List Bk := match posI l p with | none => l | some i => l.eraseIdx i
theorem few_pE (l : List Bk) (p : Int) : Few (pE l p) := by
  unfold pE
  split
  · exact .inl ⟨_, rfl⟩
  · trivial
theorem pL_len (l : List Bk) (p : Int) : (pL l p).length ≤ l.length := by
  unfold pL
  split
  · exact Nat.le_refl _
  · rw [List.length_eraseIdx]; split <;> omega
theorem gL_len (F T : Int) (l : List Bk) (n W : Int) : (gL F T l n W).length ≤ l.length + 1 := by
  unfold gL gotL
  split
  · omega
  · split
    · rw [insA_len]; omega
    · omega
section
variable {w0 w : World} {ab mb cb wb M : Nat} {F T n W p : Int} {l : List Bk}
theorem rm_put (h : Rm w0 w ab mb cb wb F T l M) :
    Calls Tryd.prog 13 #[.pointer (some ⟨ab, 0, none⟩), .int .i64 p] w fun e w' => ∃ x, e = .returned x ∧ Tells w' x (pE l p) ∧ Rm w0 w' ab mb cb wb F T (pL l p) M ∧ (∀ y o, Tells w y o → Tells w' y o) ∧ StayA w w' ab mb cb wb := by
  obtain ⟨v, ws, ha, ho, hv⟩ := h.ex
  cases hi : posI l p with
  | none =>
    refine (put_none ab mb v F T l p w ha.a hi).mono ?_
    rintro e w' ⟨x, rfl, hx, hn⟩
    unfold pE pL; rw [hi]
    exact ⟨x, rfl, hx, h.new hn, fun y o h => h.new hn, stayA_of ha (cell_of_block (ha.new hn).a.hd 3) (hn.mono (fun _ _ h => h.elim)) (fun k hk => .inl hk)⟩
  | some i =>
    obtain ⟨b, hb, hbp, hno⟩ := posI_some hi
    have hok := ho.unmapOk ha.a.fit h.top (List.mem_of_getElem? hb)
    refine (put_some ab mb cb wb v F T l ws p i b w ha hb hbp hno (fun hu => by have := unmap_cnt hu; omega)).mono ?_
    rintro e w' ⟨x, v', rfl, hx, hm, hf, hown⟩
    unfold pE pL; rw [hi]
    rw [hok] at hx hm
    rw [if_pos rfl] at hm
    exact ⟨x, rfl, hx, ⟨⟨v', _, hm, ho.erase ha.a.fit hb h.top hok, fun k hk => hv k (hown ▸ hk)⟩, h.top, h.one, h.fr, h.n.then hf (fun k hk e => by have := ownA_new h.fr hv k e; omega)⟩, fun y o => Tells.keepAt hf (ha.noAt (by rw [ho.len]; exact h.one)), stayA_of ha (cell_of_block hm.a.hd 3) hf (fun k hk => .inl (hown ▸ hk))⟩
theorem gE_some {i : Nat} (hb : ¬ badArg n W) (hi : getI F T l n = some i) : gE F T l n W = none ∧ gP F T l n W = endA F l i ∧ gL F T l n W = insA l i ⟨endA F l i, n, W⟩ := by
  unfold gE gP gL gotP gotL
  rw [if_neg hb, if_neg hb, if_neg hb, hi]
  exact ⟨rfl, rfl, rfl⟩
theorem gE_none (hb : ¬ badArg n W) (hi : getI F T l n = none) : gE F T l n W = some ([(alL, 0)], 3) ∧ gP F T l n W = 0 ∧ gL F T l n W = l := by
  unfold gE gP gL gotP gotL
  rw [if_neg hb, if_neg hb, if_neg hb, hi]
  exact ⟨rfl, rfl, rfl⟩
theorem gE_bad (hb : badArg n W) : gE F T l n W = some ([(alL, 0)], 1) ∧ gP F T l n W = 0 ∧ gL F T l n W = l := by
  unfold gE gP gL
  rw [if_pos hb, if_pos hb, if_pos hb]
  exact ⟨rfl, rfl, rfl⟩
theorem rm_got (h : Rm w0 w ab mb cb wb F T l M) (hfw : l.length < 100000) (hb : ¬ badArg n W) {i : Nat} (hi : getI F T l n = some i) {q : Int} (hq : endA F l i = q) {l' : List Bk} (hl : insA l i ⟨q, n, W⟩ = l') :
    Calls Tryd.prog 11 #[.pointer (some ⟨ab, 0, none⟩), .int .i64 n, .int .i64 W] w fun e w' => e = .returned (.tuple #[.int .i64 q, .nilIface]) ∧ Rm w0 w' ab mb cb wb F T l' M ∧ (∀ y o, Tells w y o → Tells w' y o) ∧ StayA w w' ab mb cb wb := by
  obtain ⟨h1, h2, h3⟩ := gE_some (T := T) (W := W) hb hi
  refine (rm_get h hfw).mono ?_
  rintro e w' ⟨x, rfl, hx, hr, hy⟩
  rw [h1] at hx
  rw [h3, hq, hl] at hr
  rw [h2, hq]
  obtain rfl := hx
  exact ⟨rfl, hr, hy⟩
theorem rm_full (h : Rm w0 w ab mb cb wb F T l M) (hfw : l.length < 100000) (hb : ¬ badArg n W) (hi : getI F T l n = none) :
    Calls Tryd.prog 11 #[.pointer (some ⟨ab, 0, none⟩), .int .i64 n, .int .i64 W] w fun e w' => ∃ x, e = .returned (.tuple #[.int .i64 0, x]) ∧ Tells w' x (some ([(alL, 0)], 3)) ∧ Rm w0 w' ab mb cb wb F T l M := by
  obtain ⟨h1, h2, h3⟩ := gE_none (T := T) (W := W) hb hi
  refine (rm_get h hfw).mono ?_
  rintro e w' ⟨x, rfl, hx, hr, hy⟩
  rw [h1] at hx
  rw [h3] at hr
  rw [h2]
  exact ⟨x, rfl, hx, hr⟩
theorem Rm.away (h : Rm w0 w ab mb cb wb F T l M) {w' : World} (f : New w w') {g : Nat} (hg : w.heap.size ≤ g) (hl : g < w'.heap.size) : AwayA w' ab mb cb wb g := by
  obtain ⟨v, ws, ha, _, _⟩ := h.ex
  obtain ⟨cs, hm⟩ := ha.m
  have l1 := lt_of_block ha.a.hd
  have l2 := hm.hd.lt
  have l3 := hm.cells.lt
  have l4 := hm.widths.lt
  refine ⟨hl, by omega, by omega, by omega, by omega, fun u hu e => ?_⟩
  rw [f.cell l1 id 3, cell_of_block ha.a.hd 3] at hu
  obtain rfl := Option.some.inj (hu : some v = some u)
  have := (ha.a.own.lt g e).2
  omega
/-- The blocks of a slice that lies away. -/
def KeptA (w : World) (ab mb cb wb : Nat) (ao : Option Addr) (l : List Bk) : Prop :=
  ∀ (j : Nat) (b : Bk), l[j]? = some b → ∃ g, ao = some ⟨g, 0, none⟩ ∧ AwayA w ab mb cb wb g ∧ ∀ i u, (bC b)[i]? = some u → w.cell? ⟨g, j * 3 + i, none⟩ = some u
theorem KeptA.new {w w' : World} {ao : Option Addr} (h : KeptA w ab mb cb wb ao l) (hl : ab < w.heap.size) (f : New w w') : KeptA w' ab mb cb wb ao l := fun j b hb => by
  obtain ⟨g, h1, h2, h3⟩ := h j b hb
  exact ⟨g, h1, h2.new hl f, fun i u hu => (f.cell h2.1 id _).trans (h3 i u hu)⟩
theorem KeptA.stay {w w' : World} {ao : Option Addr} (h : KeptA w ab mb cb wb ao l) (f : StayA w w' ab mb cb wb) : KeptA w' ab mb cb wb ao l := fun j b hb => by
  obtain ⟨g, h1, h2, h3⟩ := h j b hb
  obtain ⟨f1, f2⟩ := f g h2
  exact ⟨g, h1, f2, fun i u hu => (World.cell?_of_block (w := w) f1).trans (h3 i u hu)⟩
theorem Rm.kept (h : Rm w0 w ab mb cb wb F T l M) {w' : World} (f : New w w') {ao : Option Addr} {N c : Nat} {L : List Bk} (ho : w'.ownsRow w.heap.size 43 3 (.slice ao N c) N (L.flatMap bC)) : KeptA w' ab mb cb wb ao L := fun j b hb => by
  obtain ⟨g, e, hg, hc⟩ := flat_at bC 3 bC_len ho hb (by omega)
  have hlt := (ho.lt g (by rw [e]; rfl)).1
  exact ⟨g, e, h.away f hlt hg, hc⟩
theorem Rm.lt (h : Rm w0 w ab mb cb wb F T l M) : ab < w.heap.size := by
  obtain ⟨v, ws, ha, _, _⟩ := h.ex
  exact lt_of_block ha.a.hd
theorem laid_rm (hg : Laid w0) (h : Rm w0 w ab mb cb wb F T l M) : Laid w := hg.keep h.n id
end
theorem rm_start {w0 w1 w2 : World} {ab mb cb wb M : Nat} {F T : Int} (h1 : w0.heap.size ≤ mb) (h2 : w0.heap.size ≤ cb) (h3 : w0.heap.size ≤ wb) (hm : MemRep w1 mb cb wb (List.replicate M 0) (List.replicate M 0) 0 0) (hn : New w0 w1) (ha : w1.heap.size ≤ ab)
    (hr : AllocRep w2 ab mb (.slice none 0 0) F T []) (hn2 : New w1 w2) (hT : T ≤ M) (h0 : 1 ≤ M) : Rm w0 w2 ab mb cb wb F T [] M := by
  have l1 := hm.hd.lt
  have l2 := hm.cells.lt
  have l3 := hm.widths.lt
  have l4 := hn.size
  exact ⟨⟨_, _, ⟨hr, ⟨_, by rw [cnt_zero]; exact hm.keep hn2 id id id⟩, ⟨by omega, by omega, by omega, fun k hk => by cases hk⟩⟩, Only.start M, fun k hk => by cases hk⟩, hT, h0, ⟨by omega, h1, h2, h3⟩, hn.trans hn2⟩

set_option maxRecDepth 100000 in
set_option maxHeartbeats 1000000 in
theorem room_any (w : World) : Calls Tryd.prog 10 #[] w fun e w' => ∃ ab mb cb wb, e = .returned (.tuple #[.pointer (some ⟨mb, 0, none⟩), .pointer (some ⟨ab, 0, none⟩)]) ∧ Rm w w' ab mb cb wb 0 100 [] 100 := by
  go_enter Tryd.func10, Tryd.ntmps10
  go_wp2_with fail
  refine (new_any 100 w (by omega) (by omega)).mono ?_
  rintro e w1 ⟨mb, cb, wb, rfl, h1, h2, h3, hm, hn⟩
  have HM := Lib.hid hm
  have HN := Lib.hid hn
  clear hm hn
  go_wp2_with fail
  refine (anew_ok mb 0 100 w1 (by omega) (by omega) (by omega)).mono ?_
  rintro e w2 ⟨ab, rfl, h4, ha, hn2⟩
  have HR := Lib.hid (rm_start h1 h2 h3 HM.out HN.out h4 ha hn2 (by decide) (by decide))
  clear ha hn2
  go_wp2
  go_ret2
  exact ⟨_, _, _, _, rfl, HR.out⟩

/-- The widest of the first rows. -/
def wideN (F T : Int) (l : List Bk) : Nat → Int
  | 0 => 0
  | k + 1 => max (wideN F T l k) (gapA F T l k)
theorem wideN_ge (F T : Int) (l : List Bk) : ∀ (k i : Nat), i < k → gapA F T l i ≤ wideN F T l k
  | 0, i, h => by omega
  | k + 1, i, h => by
    show _ ≤ max _ _
    rcases Nat.lt_or_ge i k with h' | h'
    · have := wideN_ge F T l k i h'; omega
    · obtain rfl : i = k := by omega
      omega
theorem wideN_ex (F T : Int) (l : List Bk) (n : Int) (hn : 1 ≤ n) : ∀ (k : Nat), n ≤ wideN F T l k → ∃ i, i < k ∧ n ≤ gapA F T l i
  | 0, h => by have : wideN F T l 0 = 0 := rfl; omega
  | k + 1, h => by
    have h' : n ≤ max (wideN F T l k) (gapA F T l k) := h
    by_cases hk : n ≤ wideN F T l k
    · obtain ⟨i, h1, h2⟩ := wideN_ex F T l n hn k hk; exact ⟨i, by omega, h2⟩
    · exact ⟨k, by omega, by omega⟩
theorem wideN_bound {F T : Int} {l : List Bk} (hf : Fits F T l) : ∀ k, k ≤ l.length + 1 → 0 ≤ wideN F T l k ∧ wideN F T l k ≤ 9223372036854775807
  | 0, _ => ⟨Int.le_refl _, by show (0 : Int) ≤ _; omega⟩
  | k + 1, h => by
    have h1 := wideN_bound hf k (by omega)
    have h2 := hf.start k
    have h3 := hf.end_ (i := k) (by omega)
    have h4 := hf.lo
    show 0 ≤ max _ _ ∧ max _ _ ≤ _
    unfold gapA
    omega
theorem getI_ex {F T : Int} {l : List Bk} {n : Int} (h : ∃ i, i < l.length + 1 ∧ n ≤ gapA F T l i) : ∃ i, getI F T l n = some i := by
  cases hx : getI F T l n with
  | some i => exact ⟨i, rfl⟩
  | none => obtain ⟨i, h1, h2⟩ := h; have := getI_none hx i (by omega); omega
theorem getI_wide {F T : Int} {l : List Bk} {n : Int} (h : wideN F T l (l.length + 1) < n) : getI F T l n = none := by
  cases hx : getI F T l n with
  | none => rfl
  | some i => obtain ⟨h1, h2, _⟩ := getI_some hx; have := wideN_ge F T l (l.length + 1) i (by omega); omega
/-- The greater of two, by a test. -/
theorem max_if (a b : Int) : (if a < b then b else a) = max a b := by
  split <;> omega
set_option maxRecDepth 100000 in
set_option maxHeartbeats 2000000 in
theorem widest_any (ab mb : Nat) (v : Value) (F T : Int) (l : List Bk) (w : World) (h : AllocRep w ab mb v F T l) :
    Calls Tryd.prog 14 #[.pointer (some ⟨ab, 0, none⟩)] w fun e w' => e = .returned (.int .i64 (wideN F T l (l.length + 1))) ∧ New w w' := by
  have hst := fun i => h.fit.start i
  have hen := fun i (hi : i ≤ l.length) => h.fit.end_ hi
  have hwb := fun k hk => wideN_bound h.fit k hk
  have hws := fun k => show wideN F T l (k + 1) = max (wideN F T l k) (gapA F T l k) from rfl
  have hlo := h.fit.lo
  have hfew := h.few
  obtain ⟨ao, ca, rfl, _⟩ := owned_form h.own
  obtain ⟨N, hN⟩ : ∃ N, l.length = N := ⟨_, rfl⟩
  have H := Lib.hid h
  have HN := Lib.hid hN
  have HST := Lib.hid hst
  have HEN := Lib.hid hen
  have HWB := Lib.hid hwb
  have HWS := Lib.hid hws
  rw [hN] at hfew ⊢
  clear h hst hen hN hwb hws
  go_enter Tryd.func14, Tryd.ntmps14
  go_wp2_with fail
  go_loopw [3, 4] (fun m i wr => ∃ k : Nat, k ≤ N + 1 ∧ i = .int .i64 k ∧ m = .int .i64 (wideN F T l k) ∧ New w wr) (fun _ i _ => N + 1 - (intOf i).toNat)
  case atStart => exact ⟨0, by omega, rfl, rfl, Fr.refl _ _⟩
  case round =>
    obtain ⟨k, hk, rfl, rfl, hn⟩ := hrel
    have HR := Lib.hid (H.out.new hn)
    have c3 : wr.cell? ⟨ab, 3, none⟩ = some (.slice ao N ca) := by have := cell_of_block HR.out.hd 3; rw [HN.out] at this; exact this
    have HNW := Lib.hid hn
    clear hn
    by_cases hlt : k ≤ N
    · have hE := fun w' (f : New wr w') => aend_any ab mb _ F T l k w' (HR.out.new f) (by rw [HN.out]; exact hlt)
      have hS := astart_any ab mb _ F T l k wr HR.out (by rw [HN.out]; exact hlt)
      have hs := HST.out k
      have he := HEN.out k (by rw [HN.out]; exact hlt)
      have hb0 := HWB.out k (by rw [HN.out]; omega)
      have hb1 := HWS.out k
      unfold gapA at hb1
      generalize endA F l k = E at hE he hb1
      generalize startA T l k = S at hS hs hb1
      generalize hm : wideN F T l k = m at hb0 hb1 ⊢
      have HE := Lib.hid hE
      have HS := Lib.hid hS
      have HB1 := Lib.hid hb1
      clear hE hS hb1 hm
      go_wp2_with fail
      refine HS.out.mono ?_
      rintro e w1 ⟨rfl, hn1⟩
      have HN1 := Lib.hid hn1
      clear hn1
      go_wp2_with fail
      refine (HE.out w1 HN1.out).mono ?_
      rintro e w2 ⟨rfl, hn2⟩
      have HN2 := Lib.hid (HNW.out.trans (HN1.out.trans hn2))
      clear hn2
      go_wp2
      go_roundw
      case rel => exact ⟨k + 1, by omega, by go_num, by rw [HB1.out, max_if], HN2.out⟩
      case measure => simp [intOf]; omega
    · obtain rfl : k = N + 1 := by omega
      go_wp2
      go_ret
      exact ⟨rfl, HNW.out⟩

theorem rm_there {w0 w : World} {ab mb cb wb M : Nat} {F T Ud : Int} {l : List Bk} (h : Rm w0 w ab mb cb wb F T l M) (hU : usedN l = Ud) :
    Calls Tryd.prog 23 #[.pointer (some ⟨mb, 0, none⟩)] w fun e w' => e = .returned (.int .i64 Ud) ∧ w = w' := by
  obtain ⟨v, ws, ha, ho, _⟩ := h.ex
  obtain ⟨cs, hm⟩ := ha.m
  rw [← hU, ← ho.sum]
  exact there_any mb cb wb cs ws _ 0 w hm
theorem rm_width {w0 w : World} {ab mb cb wb M : Nat} {F T : Int} {l : List Bk} (h : Rm w0 w ab mb cb wb F T l M) {p : Nat} (hp : p < M) :
    Calls Tryd.prog 22 #[.pointer (some ⟨mb, 0, none⟩), .int .u64 p] w fun e w' => e = .returned (.int .i64 (cover l p : Nat)) ∧ w = w' := by
  obtain ⟨v, ws, ha, ho, _⟩ := h.ex
  obtain ⟨cs, hm⟩ := ha.m
  rw [← ho.at_ p hp]
  exact width_any mb cb wb cs ws _ 0 p w hm

theorem rm_widest {w0 w : World} {ab mb cb wb M : Nat} {F T Wd : Int} {l : List Bk} (h : Rm w0 w ab mb cb wb F T l M) (hW : wideN F T l (l.length + 1) = Wd) :
    Calls Tryd.prog 14 #[.pointer (some ⟨ab, 0, none⟩)] w fun e w' => e = .returned (.int .i64 Wd) ∧ New w w' := by
  obtain ⟨v, ws, ha, _, _⟩ := h.ex
  rw [← hW]
  exact widest_any ab mb v F T l w ha.a

set_option maxRecDepth 100000 in
set_option maxHeartbeats 2000000 in
theorem awake_any (w : World) (hg : Laid w) : Calls Tryd.prog 17 #[] w fun e w' => e = .returned (.bool true) ∧ New w w' := by
  have HG := Lib.hid hg
  clear hg
  go_enter Tryd.func17, Tryd.ntmps17
  go_wp2_with fail
  refine (new_any 40 w (by omega) (by omega)).mono ?_
  rintro e w1 ⟨mb, cb, wb, rfl, h1, h2, h3, hm, hn⟩
  have HM := Lib.hid hm
  have HN := Lib.hid hn
  clear hm hn
  go_wp2_with fail
  refine (anew_ok mb 10 20 w1 (by omega) (by omega) (by omega)).mono ?_
  rintro e w2 ⟨ab, rfl, h4, ha, hn2⟩
  have R0 := Lib.hid (rm_start h1 h2 h3 HM.out HN.out h4 ha hn2 (by decide) (by decide))
  clear ha hn2 h1 h2 h3 h4 HM HN
  go_wp2_with fail
  refine (rm_got R0.out (by decide) (n := 4) (W := 64) (by unfold badArg; omega) (i := 0) (by kernel_rfl) (q := 10) (by kernel_rfl) (l' := [⟨10, 4, 64⟩]) (by kernel_rfl)).mono ?_
  rintro e w3 ⟨rfl, r1, _⟩
  have R1 := Lib.hid r1
  clear r1 R0
  go_wp2_with fail
  refine (rm_got R1.out (by decide) (n := 6) (W := 32) (by unfold badArg; omega) (i := 1) (by kernel_rfl) (q := 14) (by kernel_rfl) (l' := [⟨10, 4, 64⟩, ⟨14, 6, 32⟩]) (by kernel_rfl)).mono ?_
  rintro e w4 ⟨rfl, r2, _⟩
  have R2 := Lib.hid r2
  clear r2 R1
  go_wp2_with fail
  refine (rm_full R2.out (by decide) (n := 1) (W := 64) (by unfold badArg; omega) (by kernel_rfl)).mono ?_
  rintro e w5 ⟨x, rfl, hx, r3⟩
  have R3 := Lib.hid r3
  have HX := Lib.hid hx
  clear r3 R2 hx
  go_wp2_with fail
  refine (rm_put R3.out).mono ?_
  rintro e w6 ⟨y, rfl, hy, r4, k4⟩
  obtain rfl : y = .nilIface := hy
  have R4 := Lib.hid (show Rm w w6 ab mb cb wb 10 20 [⟨14, 6, 32⟩] 40 from r4)
  have HX4 := Lib.hid (k4.1 _ _ HX.out)
  clear r4 R3 k4 HX
  go_wp2_with fail
  refine (rm_got R4.out (by decide) (n := 2) (W := 64) (by unfold badArg; omega) (i := 0) (by kernel_rfl) (q := 10) (by kernel_rfl) (l' := [⟨10, 2, 64⟩, ⟨14, 6, 32⟩]) (by kernel_rfl)).mono ?_
  rintro e w7 ⟨rfl, r5, k5⟩
  have R5 := Lib.hid r5
  have HX5 := Lib.hid (k5.1 _ _ HX4.out)
  clear r5 R4 k5 HX4
  go_wp2_with fail
  refine (no_says alL 0 3 w7).mono ?_
  rintro e w8 ⟨f, rfl, hf, hn⟩
  have HSM := Lib.hid (same_tells x f (some ([(alL, 0)], 3)) _ (laid_rm HG.out (R5.out.new hn)) (HX5.out.new hn) (failN_of hf) (.inl ⟨_, rfl⟩))
  have R6 := Lib.hid (R5.out.new hn)
  clear R5 HX5 hf hn
  go_wp2_with fail
  refine HSM.out.mono ?_
  rintro e w9 ⟨rfl, hn⟩
  have R7 := Lib.hid (R6.out.new hn)
  clear hn R6 HSM
  go_wp2
  go_ret
  exact ⟨rfl, R7.out.n⟩

end Go.Proofs.YtlmjogfjhngcoaaDoor
