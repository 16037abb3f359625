/- Both sides' blocks, apart from each other: one call on each. -/
import Derived.Test.YtlmjogfjhngcoaaDoorAllocK
import Derived.Test.YtlmjogfjhngcoaaDoorAllocI
namespace Go.Proofs.YtlmjogfjhngcoaaDoor
open Go.RowKit

def DocA (ab mb wb hb : Nat) (v : Value) (k : Nat) : Prop := k = ab ∨ k = mb ∨ k = wb ∨ k = hb ∨ v.ownBlock = some k
theorem RAM.alive {w : World} {ab mb wb hb : Nat} {v : Value} {F T : Int} {l : List Bk} {ws : List Nat} (h : RAM w ab mb wb hb v F T l ws) : ∀ k, DocA ab mb wb hb v k → k < w.heap.size := by
  obtain ⟨cs, N, hm⟩ := h.m
  rintro k (rfl | rfl | rfl | rfl | e)
  · exact lt_of_block h.hd
  · exact hm.hd.lt
  · exact hm.widths.lt
  · exact hm.holds.lt
  · exact (h.own.lt k e).2
theorem AM.alive {w : World} {ab mb cb wb : Nat} {v : Value} {F T : Int} {l : List Bk} {ws : List Nat} (h : AM w ab mb cb wb v F T l ws) : ∀ k, OwnA ab mb cb wb v k → k < w.heap.size := by
  obtain ⟨cs, hm⟩ := h.m
  rintro k (rfl | rfl | rfl | rfl | e)
  · exact lt_of_block h.a.hd
  · exact hm.hd.lt
  · exact hm.cells.lt
  · exact hm.widths.lt
  · exact (h.a.own.lt k e).2
theorem RAM.keepD {w w' : World} {ab mb wb hb : Nat} {v : Value} {F T : Int} {l : List Bk} {ws : List Nat} {S : Nat → Prop} (h : RAM w ab mb wb hb v F T l ws) (f : Fr S w w') (hs : ∀ k, DocA ab mb wb hb v k → ¬ S k) : RAM w' ab mb wb hb v F T l ws :=
  h.keep f (hs _ (.inl rfl)) (hs _ (.inr (.inl rfl))) (hs _ (.inr (.inr (.inl rfl)))) (hs _ (.inr (.inr (.inr (.inl rfl))))) (fun k hk => hs k (.inr (.inr (.inr (.inr hk)))))
theorem RAM.noAt {w : World} {ab mb wb hb : Nat} {v : Value} {F T : Int} {l : List Bk} {ws : List Nat} (h : RAM w ab mb wb hb v F T l ws) (h1 : 1 ≤ ws.length) : ∀ b L n i, w.heap[b]? = some (.cells #[.string L, .int .i64 n, i] 84 (0, 0)) → ¬ OwnR ab wb hb b := by
  intro b L n i hb
  obtain ⟨cs, N, hm⟩ := h.m
  have c0 := cell_of_block hb 0
  have hl := hm.len
  rintro (rfl | rfl | rfl)
  · rw [h.hd, Option.some.injEq, Obj.cells.injEq] at hb
    exact absurd hb.2.1 (by decide)
  · obtain ⟨x, r, rfl⟩ : ∃ x r, ws = x :: r := by cases ws with | nil => simp at h1 | cons x r => exact ⟨x, r, rfl⟩
    have := hm.widths.cell 0 _ rfl
    rw [c0] at this
    simp at this
  · obtain ⟨x, r, rfl⟩ : ∃ x r, cs = x :: r := by cases cs with | nil => simp at hl; omega | cons x r => exact ⟨x, r, rfl⟩
    have := hm.holds.cell 0 _ rfl
    rw [c0] at this
    simp at this

/-- Both sides; what each has is the other's not. -/
structure BothG (w0 w : World) (ab mb cb wb rab rmb rwb rhb : Nat) (F T : Int) (l : List Bk) (ws : List Nat) (l2 : List Bk) (ws2 : List Nat) : Prop where
  ex : ∃ va vr, AM w ab mb cb wb va F T l ws ∧ RAM w rab rmb rwb rhb vr F T l2 ws2 ∧
    (∀ k, OwnA ab mb cb wb va k → w0.heap.size ≤ k ∧ ¬ DocA rab rmb rwb rhb vr k) ∧ (∀ k, DocA rab rmb rwb rhb vr k → w0.heap.size ≤ k)
  one : 1 ≤ ws.length ∧ 1 ≤ ws2.length
  n : New w0 w
/-- A block that is neither's. -/
def AwayG (w : World) (ab mb cb wb rab rmb rwb rhb g : Nat) : Prop :=
  g < w.heap.size ∧ (∀ v, w.cell? ⟨ab, 3, none⟩ = some v → ¬ OwnA ab mb cb wb v g) ∧ (∀ v, w.cell? ⟨rab, 3, none⟩ = some v → ¬ DocA rab rmb rwb rhb v g)
def StayG (w w' : World) (ab mb cb wb rab rmb rwb rhb : Nat) : Prop := ∀ g, AwayG w ab mb cb wb rab rmb rwb rhb g → w'.heap[g]? = w.heap[g]? ∧ AwayG w' ab mb cb wb rab rmb rwb rhb g
theorem StayG.trans {a b c : World} {ab mb cb wb rab rmb rwb rhb : Nat} (h : StayG a b ab mb cb wb rab rmb rwb rhb) (k : StayG b c ab mb cb wb rab rmb rwb rhb) : StayG a c ab mb cb wb rab rmb rwb rhb :=
  fun g hg => ⟨(k g (h g hg).2).1.trans (h g hg).1, (k g (h g hg).2).2⟩
theorem stayG_of {w w' : World} {ab mb cb wb rab rmb rwb rhb : Nat} {va va' vr vr' : Value} {S : Nat → Prop} (c1 : w.cell? ⟨ab, 3, none⟩ = some va) (c2 : w.cell? ⟨rab, 3, none⟩ = some vr) (c1' : w'.cell? ⟨ab, 3, none⟩ = some va') (c2' : w'.cell? ⟨rab, 3, none⟩ = some vr')
    (f : Fr S w w') (hs : ∀ k, S k → OwnA ab mb cb wb va k ∨ DocA rab rmb rwb rhb vr k) (h1 : ∀ k, va'.ownBlock = some k → va.ownBlock = some k ∨ w.heap.size ≤ k) (h2 : ∀ k, vr'.ownBlock = some k → vr.ownBlock = some k ∨ w.heap.size ≤ k) : StayG w w' ab mb cb wb rab rmb rwb rhb := by
  rintro g ⟨hg, g1, g2⟩
  have n1 := g1 va c1
  have n2 := g2 vr c2
  refine ⟨f.block g hg (fun e => (hs g e).elim n1 n2), Nat.lt_of_lt_of_le hg f.size, fun v hv e => ?_, fun v hv e => ?_⟩
  · rw [c1'] at hv
    obtain rfl := Option.some.inj hv
    rcases e with e | e | e | e | e
    · exact n1 (.inl e)
    · exact n1 (.inr (.inl e))
    · exact n1 (.inr (.inr (.inl e)))
    · exact n1 (.inr (.inr (.inr (.inl e))))
    · rcases h1 g e with e | e
      · exact n1 (.inr (.inr (.inr (.inr e))))
      · omega
  · rw [c2'] at hv
    obtain rfl := Option.some.inj hv
    rcases e with e | e | e | e | e
    · exact n2 (.inl e)
    · exact n2 (.inr (.inl e))
    · exact n2 (.inr (.inr (.inl e)))
    · exact n2 (.inr (.inr (.inr (.inl e))))
    · rcases h2 g e with e | e
      · exact n2 (.inr (.inr (.inr (.inr e))))
      · omega
section
variable {w0 w w' : World} {ab mb cb wb rab rmb rwb rhb : Nat} {F T : Int} {l l' l2 l2' : List Bk} {ws ws' ws2 ws2' : List Nat} {va va' vr vr' : Value}
theorem BothG.new (h : BothG w0 w ab mb cb wb rab rmb rwb rhb F T l ws l2 ws2) (f : New w w') : BothG w0 w' ab mb cb wb rab rmb rwb rhb F T l ws l2 ws2 := by
  obtain ⟨va, vr, h1, h2, h3, h4⟩ := h.ex
  exact ⟨⟨va, vr, h1.new f, h2.new f, h3, h4⟩, h.one, h.n.trans f⟩
theorem BothG.newS (h : BothG w0 w ab mb cb wb rab rmb rwb rhb F T l ws l2 ws2) (f : New w w') : BothG w0 w' ab mb cb wb rab rmb rwb rhb F T l ws l2 ws2 ∧ StayG w w' ab mb cb wb rab rmb rwb rhb := by
  obtain ⟨va, vr, h1, h2, h3, h4⟩ := h.ex
  exact ⟨h.new f, stayG_of (cell_of_block h1.a.hd 3) (cell_of_block h2.hd 3) (cell_of_block (h1.new f).a.hd 3) (cell_of_block (h2.new f).hd 3) f (fun _ e => e.elim) (fun _ => .inl) (fun _ => .inl)⟩
theorem BothG.away (h : BothG w0 w ab mb cb wb rab rmb rwb rhb F T l ws l2 ws2) (o : Obj) : AwayG (w.alloc o) ab mb cb wb rab rmb rwb rhb w.heap.size := by
  obtain ⟨va, vr, h1, h2, h3, h4⟩ := h.ex
  have f : New w (w.alloc o) := (Fr.refl _ _).alloc _
  refine ⟨by simp, fun v hv e => ?_, fun v hv e => ?_⟩
  · rw [show (w.alloc o).cell? ⟨ab, 3, none⟩ = some va from cell_of_block (h1.new f).a.hd 3] at hv
    obtain rfl := Option.some.inj hv
    have := h1.alive _ e; omega
  · rw [show (w.alloc o).cell? ⟨rab, 3, none⟩ = some vr from cell_of_block (h2.new f).hd 3] at hv
    obtain rfl := Option.some.inj hv
    have := h2.alive _ e; omega
theorem bg_left (ha : AM w ab mb cb wb va F T l ws) (hr : RAM w rab rmb rwb rhb vr F T l2 ws2) (h1 : ∀ k, OwnA ab mb cb wb va k → w0.heap.size ≤ k ∧ ¬ DocA rab rmb rwb rhb vr k) (h2 : ∀ k, DocA rab rmb rwb rhb vr k → w0.heap.size ≤ k) (hn : New w0 w)
    (hm : AM w' ab mb cb wb va' F T l' ws') (hf : Fr (OwnA ab mb cb wb va) w w') (ho : ∀ k, va'.ownBlock = some k → va.ownBlock = some k ∨ w.heap.size ≤ k) (hw : 1 ≤ ws'.length ∧ 1 ≤ ws2.length) : BothG w0 w' ab mb cb wb rab rmb rwb rhb F T l' ws' l2 ws2 ∧ StayG w w' ab mb cb wb rab rmb rwb rhb := by
  have hr' := hr.keepD hf (fun k hk e => (h1 k e).2 hk)
  refine ⟨?_, stayG_of (cell_of_block ha.a.hd 3) (cell_of_block hr.hd 3) (cell_of_block hm.a.hd 3) (cell_of_block hr'.hd 3) hf (fun _ => .inl) ho (fun _ => .inl)⟩
  refine ⟨⟨va', vr, hm, hr.keepD hf (fun k hk e => (h1 k e).2 hk), fun k hk => ?_, h2⟩, hw, hn.then hf (fun k hk e => by have := (h1 k e).1; omega)⟩
  rcases hk with e | e | e | e | e
  · exact h1 k (.inl e)
  · exact h1 k (.inr (.inl e))
  · exact h1 k (.inr (.inr (.inl e)))
  · exact h1 k (.inr (.inr (.inr (.inl e))))
  · rcases ho k e with e | e
    · exact h1 k (.inr (.inr (.inr (.inr e))))
    · exact ⟨Nat.le_trans hn.size e, fun hk => by have := hr.alive k hk; omega⟩
theorem bg_right (ha : AM w ab mb cb wb va F T l ws) (hr : RAM w rab rmb rwb rhb vr F T l2 ws2) (h1 : ∀ k, OwnA ab mb cb wb va k → w0.heap.size ≤ k ∧ ¬ DocA rab rmb rwb rhb vr k) (h2 : ∀ k, DocA rab rmb rwb rhb vr k → w0.heap.size ≤ k) (hn : New w0 w)
    (hm : RAM w' rab rmb rwb rhb vr' F T l2' ws2') (hf : Fr (OwnR rab rwb rhb) w w') (ho : ∀ k, vr'.ownBlock = some k → vr.ownBlock = some k ∨ w.heap.size ≤ k) (hw : 1 ≤ ws.length ∧ 1 ≤ ws2'.length) : BothG w0 w' ab mb cb wb rab rmb rwb rhb F T l ws l2' ws2' ∧ StayG w w' ab mb cb wb rab rmb rwb rhb := by
  have hd : ∀ k, OwnR rab rwb rhb k → DocA rab rmb rwb rhb vr k := by
    rintro k (e | e | e)
    · exact .inl e
    · exact .inr (.inr (.inl e))
    · exact .inr (.inr (.inr (.inl e)))
  have hd2 : ∀ k, DocA rab rmb rwb rhb vr' k → DocA rab rmb rwb rhb vr k ∨ w.heap.size ≤ k := by
    rintro k (e | e | e | e | e)
    · exact .inl (.inl e)
    · exact .inl (.inr (.inl e))
    · exact .inl (.inr (.inr (.inl e)))
    · exact .inl (.inr (.inr (.inr (.inl e))))
    · rcases ho k e with e | e
      · exact .inl (.inr (.inr (.inr (.inr e))))
      · exact .inr e
  have ha' := ha.keep hf (fun k hk e => (h1 k hk).2 (hd k e))
  refine ⟨?_, stayG_of (cell_of_block ha.a.hd 3) (cell_of_block hr.hd 3) (cell_of_block ha'.a.hd 3) (cell_of_block hm.hd 3) hf (fun k e => .inr (hd k e)) (fun _ => .inl) ho⟩
  refine ⟨⟨va, vr', ha', hm, fun k hk => ⟨(h1 k hk).1, fun e => ?_⟩, fun k hk => ?_⟩, hw, hn.then hf (fun k hk e => by have := h2 k (hd k e); omega)⟩
  · rcases hd2 k e with e | e
    · exact (h1 k hk).2 e
    · have := ha.alive k hk; omega
  · rcases hd2 k hk with e | e
    · exact h2 k e
    · exact Nat.le_trans hn.size e

/-- What Get leaves. -/
noncomputable def aP (F T : Int) (l : List Bk) (ws : List Nat) (n W : Int) : Int := by classical exact if getE F T l ws n W = none then gotP F T l n else 0
noncomputable def aL (F T : Int) (l : List Bk) (ws : List Nat) (n W : Int) : List Bk := by classical exact if getE F T l ws n W = none then gotL F T l n W else l
noncomputable def aW (F T : Int) (l : List Bk) (ws : List Nat) (n W : Int) : List Nat := by classical exact if getE F T l ws n W = none then fill ws (gotP F T l n).toNat n.toNat W.toNat else ws
theorem aW_len (F T : Int) (l : List Bk) (ws : List Nat) (n W : Int) : (aW F T l ws n W).length = ws.length := by
  unfold aW
  split
  · rw [fill_len]
  · rfl
theorem aL_len (F T : Int) (l : List Bk) (ws : List Nat) (n W : Int) : (aL F T l ws n W).length ≤ l.length + 1 := by
  unfold aL gotL
  split
  · split
    · rw [insA_len]; omega
    · omega
  · omega
theorem few_getE (F T : Int) (l : List Bk) (ws : List Nat) (n W : Int) : Few (getE F T l ws n W) := by
  unfold getE
  split
  · exact .inl ⟨_, rfl⟩
  · split
    · exact .inl ⟨_, rfl⟩
    · exact few_in _ _ _ _

theorem bg_get (n W : Int) (h : BothG w0 w ab mb cb wb rab rmb rwb rhb F T l ws l2 ws2) (hl : l.length < 100000) :
    Calls Tryd.prog 11 #[.pointer (some ⟨ab, 0, none⟩), .int .i64 n, .int .i64 W] w fun e w' => ∃ x, e = .returned (.tuple #[.int .i64 (aP F T l ws n W), x]) ∧ Tells w' x (getE F T l ws n W) ∧ (BothG w0 w' ab mb cb wb rab rmb rwb rhb F T (aL F T l ws n W) (aW F T l ws n W) l2 ws2 ∧ StayG w w' ab mb cb wb rab rmb rwb rhb) := by
  obtain ⟨va, vr, h1, h2, h3, h4⟩ := h.ex
  refine (get_any ab mb cb wb va F T l ws n W w h1 hl).mono ?_
  rintro e w' ⟨x, v', rfl, hx, hm, hf, ho⟩
  have hwl := aW_len F T l ws n W
  have h5 := h.one
  unfold aP
  refine ⟨x, rfl, hx, ?_⟩
  unfold aL
  unfold aW at hwl ⊢
  by_cases he : getE F T l ws n W = none
  · rw [if_pos he] at hm hwl ⊢
    rw [if_pos he]
    exact bg_left h1 h2 h3 h4 h.n hm (hf.mono (fun _ _ h => h.2)) ho ⟨by omega, h5.2⟩
  · rw [if_neg he] at hm ⊢
    rw [if_neg he]
    exact bg_left h1 h2 h3 h4 h.n hm.2 (hf.mono (fun _ _ h => h.2)) (fun k hk => .inl hk) h5
theorem bg_rget (n W : Int) (h : BothG w0 w ab mb cb wb rab rmb rwb rhb F T l ws l2 ws2) (hl : l2.length < 100000) :
    Calls Tryd.prog 31 #[.pointer (some ⟨rab, 0, none⟩), .int .i64 n, .int .i64 W] w fun e w' => ∃ x, e = .returned (.tuple #[.int .i64 (aP F T l2 ws2 n W), x]) ∧ TellsF w' x (getE F T l2 ws2 n W) ∧ (BothG w0 w' ab mb cb wb rab rmb rwb rhb F T l ws (aL F T l2 ws2 n W) (aW F T l2 ws2 n W) ∧ StayG w w' ab mb cb wb rab rmb rwb rhb) ∧ ∀ y o, Tells w y o → Tells w' y o := by
  obtain ⟨va, vr, h1, h2, h3, h4⟩ := h.ex
  have h5 := h.one
  have hno := h2.noAt h5.2
  by_cases hb : badArg n W
  · refine (rget_bad rab n W w hb).mono ?_
    rintro e w' ⟨x, rfl, hx, hn⟩
    have he := getE_bad (F := F) (T := T) (l := l2) (ws := ws2) hb
    unfold aP aL aW
    rw [he]
    exact ⟨x, by rw [if_neg (by simp)], hx, by rw [if_neg (by simp), if_neg (by simp)]; exact h.newS hn, fun y o => Tells.new hn⟩
  · refine (rget_good rab rmb rwb rhb vr F T l2 ws2 n W w h2 hb hl).mono ?_
    rintro e w' ⟨x, v', rfl, hx, hm, hf, ho⟩
    have hwl := aW_len F T l2 ws2 n W
    unfold aP
    refine ⟨x, rfl, hx, ?_, fun y o => Tells.keepAt hf (fun b L n i hb e => hno b L n i hb e.2)⟩
    unfold aL
    unfold aW at hwl ⊢
    by_cases he : getE F T l2 ws2 n W = none
    · rw [if_pos he] at hm hwl ⊢
      rw [if_pos he]
      exact bg_right h1 h2 h3 h4 h.n hm (hf.mono (fun _ _ h => h.2)) ho ⟨h5.1, by omega⟩
    · rw [if_neg he] at hm ⊢
      rw [if_neg he]
      exact bg_right h1 h2 h3 h4 h.n hm.2 (hf.mono (fun _ _ h => h.2)) (fun k hk => .inl hk) h5

/-- What Put leaves. -/
def puE (l : List Bk) (ws : List Nat) (p : Int) : ErrL := match posI l p with | none => some ([(alL, p)], 4) | some i => match l[i]? with | some b => inL alL p memL (unmapErr ws p b.num) | none => none
def puL (l : List Bk) (p : Int) : List Bk := match posI l p with | none => l | some i => l.eraseIdx i
def puW (l : List Bk) (ws : List Nat) (p : Int) : List Nat := match posI l p with | none => ws | some i => match l[i]? with | some b => (if unmapErr ws p b.num = none then fill ws p.toNat b.num.toNat 0 else ws) | none => ws
theorem puW_len (l : List Bk) (ws : List Nat) (p : Int) : (puW l ws p).length = ws.length := by
  unfold puW
  split
  · rfl
  · split
    · split
      · rw [fill_len]
      · rfl
    · rfl
theorem puL_len (l : List Bk) (p : Int) : (puL l p).length ≤ l.length := by
  unfold puL
  split
  · omega
  · rw [List.length_eraseIdx]; split <;> omega
theorem few_puE (l : List Bk) (ws : List Nat) (p : Int) : Few (puE l ws p) := by
  unfold puE
  split
  · exact .inl ⟨_, rfl⟩
  · split
    · exact few_in _ _ _ _
    · trivial
theorem puE_none {l : List Bk} {p : Int} (ws : List Nat) (h : posI l p = none) : puE l ws p = some ([(alL, p)], 4) ∧ puL l p = l ∧ puW l ws p = ws := by
  unfold puE puL puW; rw [h]; exact ⟨rfl, rfl, rfl⟩
theorem puE_some {l : List Bk} {p : Int} {i : Nat} {b : Bk} (ws : List Nat) (h : posI l p = some i) (hb : l[i]? = some b) : puE l ws p = inL alL p memL (unmapErr ws p b.num) ∧ puL l p = l.eraseIdx i ∧ puW l ws p = if unmapErr ws p b.num = none then fill ws p.toNat b.num.toNat 0 else ws := by
  unfold puE puL puW; rw [h]; refine ⟨?_, rfl, ?_⟩ <;> simp only [hb]

theorem bg_put (p : Int) (h : BothG w0 w ab mb cb wb rab rmb rwb rhb F T l ws l2 ws2) :
    Calls Tryd.prog 13 #[.pointer (some ⟨ab, 0, none⟩), .int .i64 p] w fun e w' => ∃ x, e = .returned x ∧ Tells w' x (puE l ws p) ∧ (BothG w0 w' ab mb cb wb rab rmb rwb rhb F T (puL l p) (puW l ws p) l2 ws2 ∧ StayG w w' ab mb cb wb rab rmb rwb rhb) := by
  obtain ⟨va, vr, h1, h2, h3, h4⟩ := h.ex
  have h5 := h.one
  have hwl := puW_len l ws p
  cases hi : posI l p with
  | none =>
    obtain ⟨e1, e2, e3⟩ := puE_none ws hi
    rw [e1, e2, e3]
    refine (put_none ab mb va F T l p w h1.a hi).mono ?_
    rintro e w' ⟨x, rfl, hx, hn⟩
    exact ⟨x, rfl, hx, h.newS hn⟩
  | some i =>
    obtain ⟨b, hb, hbp, hno⟩ := posI_some hi
    obtain ⟨e1, e2, e3⟩ := puE_some ws hi hb
    rw [e3] at hwl
    rw [e1, e2, e3]
    refine (put_some ab mb cb wb va F T l ws p i b w h1 hb hbp hno (fun hu => by have := unmap_cnt hu; omega)).mono ?_
    rintro e w' ⟨x, v', rfl, hx, hm, hf, hown⟩
    rw [hbp] at hx hm
    exact ⟨x, rfl, hx, bg_left h1 h2 h3 h4 h.n hm hf (fun k hk => .inl (hown ▸ hk)) ⟨by omega, h5.2⟩⟩
theorem bg_rput (p : Int) (h : BothG w0 w ab mb cb wb rab rmb rwb rhb F T l ws l2 ws2) :
    Calls Tryd.prog 26 #[.pointer (some ⟨rab, 0, none⟩), .int .i64 p] w fun e w' => ∃ x, e = .returned x ∧ TellsF w' x (puE l2 ws2 p) ∧ (BothG w0 w' ab mb cb wb rab rmb rwb rhb F T l ws (puL l2 p) (puW l2 ws2 p) ∧ StayG w w' ab mb cb wb rab rmb rwb rhb) ∧ ∀ y o, Tells w y o → Tells w' y o := by
  obtain ⟨va, vr, h1, h2, h3, h4⟩ := h.ex
  have h5 := h.one
  have hwl := puW_len l2 ws2 p
  have hno2 := h2.noAt h5.2
  cases hi : posI l2 p with
  | none =>
    obtain ⟨e1, e2, e3⟩ := puE_none ws2 hi
    rw [e1, e2, e3]
    refine (rput_none rab rmb rwb rhb vr F T l2 ws2 p w h2 hi).mono ?_
    rintro e w' ⟨x, rfl, hx, hn⟩
    exact ⟨x, rfl, hx, h.newS hn, fun y o => Tells.new hn⟩
  | some i =>
    obtain ⟨b, hb, hbp, hno⟩ := posI_some hi
    obtain ⟨e1, e2, e3⟩ := puE_some ws2 hi hb
    rw [e3] at hwl
    rw [e1, e2, e3]
    refine (rput_some rab rmb rwb rhb vr F T l2 ws2 p i b w h2 hb hbp hno).mono ?_
    rintro e w' ⟨x, v', rfl, hx, hm, hf, hown⟩
    rw [hbp] at hx hm
    exact ⟨x, rfl, hx, bg_right h1 h2 h3 h4 h.n hm hf (fun k hk => .inr (hown k hk)) ⟨h5.1, by omega⟩, fun y o => Tells.keepAt hf hno2⟩

/-- What Map and Unmap leave. -/
def mW (ws : List Nat) (a n W : Int) : List Nat := if mapErr ws a n W = none then fill ws a.toNat n.toNat W.toNat else ws
def uW (ws : List Nat) (a n : Int) : List Nat := if unmapErr ws a n = none then fill ws a.toNat n.toNat 0 else ws
theorem mW_len (ws : List Nat) (a n W : Int) : (mW ws a n W).length = ws.length := by unfold mW; split; rw [fill_len]; rfl
theorem uW_len (ws : List Nat) (a n : Int) : (uW ws a n).length = ws.length := by unfold uW; split; rw [fill_len]; rfl
theorem bg_map (a n W : Int) (ha : a ≤ 9223372036854775807) (h : BothG w0 w ab mb cb wb rab rmb rwb rhb F T l ws l2 ws2) :
    Calls Tryd.prog 27 #[.pointer (some ⟨mb, 0, none⟩), .int .i64 a, .int .i64 n, .int .i64 W] w fun e w' => ∃ x, e = .returned x ∧ Tells w' x (oneL memL (mapErr ws a n W)) ∧ (BothG w0 w' ab mb cb wb rab rmb rwb rhb F T l (mW ws a n W) l2 ws2 ∧ StayG w w' ab mb cb wb rab rmb rwb rhb) := by
  obtain ⟨va, vr, h1, h2, h3, h4⟩ := h.ex
  have h5 := h.one
  have hwl := mW_len ws a n W
  obtain ⟨cs, hm⟩ := h1.m
  obtain ⟨p1, p2, p3, p4⟩ := h1.ap
  have hln := hm.len
  refine (map_any mb cb wb cs ws (cnt ws) 0 a n W w hm ha (fun he => by
    have := (map_cnt he).1
    have := cnt_le (fill ws a.toNat n.toNat W.toNat)
    rw [fill_len] at this; omega)).mono ?_
  rintro e w' ⟨x, rfl, hx, hr, hf⟩
  refine ⟨x, rfl, tells_one hx, ?_⟩
  have hm' : ∃ cs', MemRep w' mb cb wb cs' (mW ws a n W) (cnt (mW ws a n W)) 0 := by
    unfold mW
    split at hr
    · rename_i he
      rw [if_pos he]
      obtain ⟨th, hr, e⟩ := hr
      have := map_cnt he
      obtain rfl : th = cnt (fill ws a.toNat n.toNat W.toNat) := by omega
      exact ⟨_, hr⟩
    · rename_i he
      rw [if_neg he]; exact ⟨_, hr⟩
  have hf' : Fr (fun k => k = mb ∨ k = cb ∨ k = wb) w w' := hf.mono (fun _ _ e => e.2)
  exact bg_left h1 h2 h3 h4 h.n (va' := va) ⟨h1.a.keep hf' (by omega) (fun k hk e => by have := p4 k hk; omega), hm', h1.ap⟩ (hf'.mono (fun k _ e => by
    rcases e with e | e | e
    · exact .inr (.inl e)
    · exact .inr (.inr (.inl e))
    · exact .inr (.inr (.inr (.inl e))))) (fun k hk => .inl hk) ⟨by omega, h5.2⟩
theorem bg_unmap (a n : Int) (ha : a ≤ 9223372036854775807) (h : BothG w0 w ab mb cb wb rab rmb rwb rhb F T l ws l2 ws2) :
    Calls Tryd.prog 29 #[.pointer (some ⟨mb, 0, none⟩), .int .i64 a, .int .i64 n] w fun e w' => ∃ x, e = .returned x ∧ Tells w' x (oneL memL (unmapErr ws a n)) ∧ (BothG w0 w' ab mb cb wb rab rmb rwb rhb F T l (uW ws a n) l2 ws2 ∧ StayG w w' ab mb cb wb rab rmb rwb rhb) := by
  obtain ⟨va, vr, h1, h2, h3, h4⟩ := h.ex
  have h5 := h.one
  have hwl := uW_len ws a n
  obtain ⟨cs, hm⟩ := h1.m
  obtain ⟨p1, p2, p3, p4⟩ := h1.ap
  refine (unmap_any mb cb wb cs ws (cnt ws) 0 a n w hm ha (fun he => by have := unmap_cnt he; omega)).mono ?_
  rintro e w' ⟨x, rfl, hx, hr, hf⟩
  refine ⟨x, rfl, tells_one hx, ?_⟩
  have hm' : ∃ cs', MemRep w' mb cb wb cs' (uW ws a n) (cnt (uW ws a n)) 0 := by
    unfold uW
    split at hr
    · rename_i he
      rw [if_pos he]
      obtain ⟨th, hr, e⟩ := hr
      have := unmap_cnt he
      obtain rfl : th = cnt (fill ws a.toNat n.toNat 0) := by omega
      exact ⟨_, hr⟩
    · rename_i he
      rw [if_neg he]; exact ⟨_, hr⟩
  have hf' : Fr (fun k => k = mb ∨ k = cb ∨ k = wb) w w' := hf.mono (fun _ _ e => e.2)
  exact bg_left h1 h2 h3 h4 h.n (va' := va) ⟨h1.a.keep hf' (by omega) (fun k hk e => by have := p4 k hk; omega), hm', h1.ap⟩ (hf'.mono (fun k _ e => by
    rcases e with e | e | e
    · exact .inr (.inl e)
    · exact .inr (.inr (.inl e))
    · exact .inr (.inr (.inr (.inl e))))) (fun k hk => .inl hk) ⟨by omega, h5.2⟩
theorem bg_rmap (a n W : Int) (ha : a ≤ 9223372036854775807) (hn : n ≤ 9223372036854775807) (h : BothG w0 w ab mb cb wb rab rmb rwb rhb F T l ws l2 ws2) :
    Calls Tryd.prog 28 #[.pointer (some ⟨rmb, 0, none⟩), .int .i64 a, .int .i64 n, .int .i64 W] w fun e w' => ∃ x, e = .returned x ∧ TellsF w' x (oneL memL (mapErr ws2 a n W)) ∧ (BothG w0 w' ab mb cb wb rab rmb rwb rhb F T l ws l2 (mW ws2 a n W) ∧ StayG w w' ab mb cb wb rab rmb rwb rhb) ∧ ∀ y o, Tells w y o → Tells w' y o := by
  obtain ⟨va, vr, h1, h2, h3, h4⟩ := h.ex
  have h5 := h.one
  have hno2 := h2.noAt h5.2
  have hwl := mW_len ws2 a n W
  obtain ⟨cs, N, hm⟩ := h2.m
  obtain ⟨p1, p2, p3, p4⟩ := h2.ap
  refine (rmap_any rmb rwb rhb cs ws2 N a n W w hm hn ha).mono ?_
  rintro e w' ⟨x, rfl, hx, hr, hf⟩
  have hf' : Fr (OwnR rab rwb rhb) w w' := hf.mono (fun _ _ e => .inr e.2)
  have hf2 : Fr (fun k => k = rwb ∨ k = rhb) w w' := hf.mono (fun _ _ e => e.2)
  refine ⟨x, rfl, tellsF_one hx, ?_, fun y o => Tells.keepAt hf' hno2⟩
  have hm' : ∃ cs' N, RefRep w' rmb rwb rhb cs' (mW ws2 a n W) N := by
    unfold mW
    split at hr
    · rename_i he
      rw [if_pos he]; exact ⟨_, _, hr⟩
    · rename_i he
      rw [if_neg he]; exact ⟨_, _, hr⟩
  exact bg_right h1 h2 h3 h4 h.n (vr' := vr) ⟨by rw [hf2.block rab (lt_of_block h2.hd) (by omega)]; exact h2.hd, own_kept h2.own hf2 (fun k hk e => by have := p4 k hk; omega), h2.fit, h2.few, hm', h2.ap⟩ hf' (fun k hk => .inl hk) ⟨h5.1, by omega⟩
theorem bg_runmap (a n : Int) (ha : a ≤ 9223372036854775807) (hn : n ≤ 9223372036854775807) (h : BothG w0 w ab mb cb wb rab rmb rwb rhb F T l ws l2 ws2) :
    Calls Tryd.prog 30 #[.pointer (some ⟨rmb, 0, none⟩), .int .i64 a, .int .i64 n] w fun e w' => ∃ x, e = .returned x ∧ TellsF w' x (oneL memL (unmapErr ws2 a n)) ∧ (BothG w0 w' ab mb cb wb rab rmb rwb rhb F T l ws l2 (uW ws2 a n) ∧ StayG w w' ab mb cb wb rab rmb rwb rhb) ∧ ∀ y o, Tells w y o → Tells w' y o := by
  obtain ⟨va, vr, h1, h2, h3, h4⟩ := h.ex
  have h5 := h.one
  have hno2 := h2.noAt h5.2
  have hwl := uW_len ws2 a n
  obtain ⟨cs, N, hm⟩ := h2.m
  obtain ⟨p1, p2, p3, p4⟩ := h2.ap
  refine (runmap_any rmb rwb rhb cs ws2 N a n w hm hn ha).mono ?_
  rintro e w' ⟨x, rfl, hx, hr, hf⟩
  have hf' : Fr (OwnR rab rwb rhb) w w' := hf.mono (fun _ _ e => .inr e.2)
  have hf2 : Fr (fun k => k = rwb ∨ k = rhb) w w' := hf.mono (fun _ _ e => e.2)
  refine ⟨x, rfl, tellsF_one hx, ?_, fun y o => Tells.keepAt hf' hno2⟩
  have hm' : ∃ cs' N, RefRep w' rmb rwb rhb cs' (uW ws2 a n) N := by
    unfold uW
    split at hr
    · rename_i he
      rw [if_pos he]; exact ⟨_, _, hr⟩
    · rename_i he
      rw [if_neg he]; exact ⟨_, _, hr⟩
  exact bg_right h1 h2 h3 h4 h.n (vr' := vr) ⟨by rw [hf2.block rab (lt_of_block h2.hd) (by omega)]; exact h2.hd, own_kept h2.own hf2 (fun k hk e => by have := p4 k hk; omega), h2.fit, h2.few, hm', h2.ap⟩ hf' (fun k hk => .inl hk) ⟨h5.1, by omega⟩
theorem bg_there (h : BothG w0 w ab mb cb wb rab rmb rwb rhb F T l ws l2 ws2) : Calls Tryd.prog 23 #[.pointer (some ⟨mb, 0, none⟩)] w fun e w' => e = .returned (.int .i64 (cnt ws : Nat)) ∧ w = w' := by
  obtain ⟨va, vr, h1, h2, h3, h4⟩ := h.ex
  obtain ⟨cs, hm⟩ := h1.m
  exact there_any mb cb wb cs ws (cnt ws) 0 w hm
theorem bg_rthere (h : BothG w0 w ab mb cb wb rab rmb rwb rhb F T l ws l2 ws2) : Calls Tryd.prog 33 #[.pointer (some ⟨rmb, 0, none⟩)] w fun e w' => e = .returned (.int .i64 (cnt ws2 : Nat)) ∧ w = w' := by
  obtain ⟨va, vr, h1, h2, h3, h4⟩ := h.ex
  obtain ⟨cs, N, hm⟩ := h2.m
  exact rthere_any rmb rwb rhb cs ws2 N w hm

set_option maxRecDepth 100000 in
set_option maxHeartbeats 8000000 in
theorem lsame_any (h : BothG w0 w ab mb cb wb rab rmb rwb rhb F T l ws l ws2) (hl : l.length ≤ 1000) :
    Calls Tryd.prog 32 #[.pointer (some ⟨ab, 0, none⟩), .pointer (some ⟨rab, 0, none⟩)] w fun e w' => e = .returned (.bool true) ∧ New w w' := by
  obtain ⟨va, vr, h1, h2, _, _⟩ := h.ex
  obtain ⟨ro, rc, rfl, _⟩ := owned_form h2.own
  obtain ⟨N, hN⟩ : ∃ N, l.length = N := ⟨_, rfl⟩
  have HLB := Lib.hid (lblocks_any ab mb va F T l 1000 w h1.a (by omega) (by omega))
  rw [show l.take 1000 = l from List.take_of_length_le (by omega), hN] at HLB
  have HU := Lib.hid (fun w' (f : New w w') => used_any ab mb va F T l w' (h1.new f).a)
  have HRU := Lib.hid (fun w' (f : New w w') => rused_any rab rmb rwb rhb _ F T l ws2 w' (h2.new f))
  have HW := Lib.hid (fun w' (f : New w w') => widest_any ab mb va F T l w' (h1.new f).a)
  have HRW := Lib.hid (fun w' (f : New w w') => rwidest_any rab rmb rwb rhb _ F T l ws2 w' (h2.new f))
  have hhd := h2.hd
  have HRO := Lib.hid (fun (q : Nat) (y : Bk) (e : l[q]? = some y) => flat_at bC 3 bC_len h2.own e (by omega))
  rw [hN] at hhd hl HW HRW
  generalize usedN l = U at HU HRU
  generalize wideN F T l (N + 1) = V at HW HRW
  have HHD := Lib.hid hhd
  have HN := Lib.hid hN
  have la := lt_of_block hhd
  have t1 : (U != U) = false := by simp
  have t2 : (V != V) = false := by simp
  have t3 : ((N : Int) != (N : Int)) = false := by simp
  clear h h1 h2 hhd hN
  go_enter Tryd.func32, Tryd.ntmps32
  go_wp2_with fail
  refine HLB.out.mono ?_
  rintro e w1 ⟨v, rfl, ho, hn1⟩
  obtain ⟨ao, ca, rfl, _⟩ := owned_form ho
  have HO := Lib.hid (fun (q : Nat) (y : Bk) (e : l[q]? = some y) => flat_at bC 3 bC_len (by rw [← HN.out] at ho; rw [HN.out] at ho; exact ho) e (by omega))
  have HN1 := Lib.hid hn1
  have c3 : w1.cell? ⟨rab, 3, none⟩ = some (.slice ro N rc) := (hn1.cell la id 3).trans (cell_of_block HHD.out 3)
  clear HLB ho hn1
  go_wp2_with fail
  refine (HU.out w1 HN1.out).mono ?_
  rintro e w2 ⟨rfl, hn2⟩
  have HN2 := Lib.hid (HN1.out.trans hn2)
  have HX := Lib.hid hn2
  clear hn2 c3
  go_wp2_with fail
  refine (HRU.out w2 HN2.out).mono ?_
  rintro e w3 ⟨rfl, rfl⟩
  go_wp2_with fail
  refine (HW.out w3 HN2.out).mono ?_
  rintro e w4 ⟨rfl, hn4⟩
  have HN4 := Lib.hid (HN2.out.trans hn4)
  have HX4 := Lib.hid (HX.out.trans hn4)
  clear hn4
  go_wp2_with fail
  refine (HRW.out w4 HN4.out).mono ?_
  rintro e w5 ⟨rfl, hn5⟩
  have HN5 := Lib.hid (HN4.out.trans hn5)
  have HX5 := Lib.hid (HX4.out.trans hn5)
  clear hn5 t1 t2 t3
  go_wp2_with fail
  go_loopw [6] (fun i wr => ∃ k : Nat, k ≤ N ∧ i = .int .i64 k ∧ New w5 wr) (fun i _ => N - (intOf i).toNat)
  case atStart => exact ⟨0, by omega, rfl, Fr.refl _ _⟩
  case round =>
    obtain ⟨k, hk, rfl, hn⟩ := hrel
    by_cases hlt : k < N
    · obtain ⟨b, hb⟩ : ∃ b, l[k]? = some b := ⟨l[k]'(by rw [HN.out]; omega), by simp⟩
      obtain ⟨g, rfl, hgl, hc⟩ := HRO.out k b hb
      obtain ⟨g2, rfl, hgl2, hc2⟩ := HO.out k b hb
      have hn1 := HN5.out.trans hn
      have hn2 := HX5.out.trans hn
      have c3 : wr.cell? ⟨rab, 3, none⟩ = some (.slice (some ⟨g, 0, none⟩) N rc) := (hn1.cell la id 3).trans (cell_of_block HHD.out 3)
      have x0 : wr.cell? ⟨g, k * 3, none⟩ = some (.int .i64 b.pos) := (hn1.cell hgl id _).trans (hc 0 _ rfl)
      have x1 : wr.cell? ⟨g, k * 3 + 1, none⟩ = some (.int .i64 b.num) := (hn1.cell hgl id _).trans (hc 1 _ rfl)
      have x2 : wr.cell? ⟨g, k * 3 + 2, none⟩ = some (.int .i64 b.wid) := (hn1.cell hgl id _).trans (hc 2 _ rfl)
      have y0 : wr.cell? ⟨g2, k * 3, none⟩ = some (.int .i64 b.pos) := (hn2.cell hgl2 id _).trans (hc2 0 _ rfl)
      have y1 : wr.cell? ⟨g2, k * 3 + 1, none⟩ = some (.int .i64 b.num) := (hn2.cell hgl2 id _).trans (hc2 1 _ rfl)
      have y2 : wr.cell? ⟨g2, k * 3 + 2, none⟩ = some (.int .i64 b.wid) := (hn2.cell hgl2 id _).trans (hc2 2 _ rfl)
      have q1 : (0 : Int) ≤ (k : Int) := by omega
      have q2 : (k : Int) < (N : Int) := by omega
      generalize b.pos = P at x0 y0
      generalize b.num = C at x1 y1
      generalize b.wid = D at x2 y2
      have t1 : (P != P) = false := by simp
      have t2 : (C != C) = false := by simp
      have t3 : (D != D) = false := by simp
      have HNW := Lib.hid hn
      clear hb hc hc2 hn hn1 hn2
      go_wp2_with fail
      go_quiet (fail)
      go_wp2_with fail
      go_roundw
      case rel => exact ⟨k + 1, by omega, by go_num, HNW.out.drewN _⟩
      case measure => simp [intOf]; omega
    · obtain rfl : k = N := by omega
      have HNW := Lib.hid hn
      clear hn
      go_wp2_with fail
      go_ret
      exact ⟨rfl, HN5.out.trans HNW.out⟩
end

end Go.Proofs.YtlmjogfjhngcoaaDoor
