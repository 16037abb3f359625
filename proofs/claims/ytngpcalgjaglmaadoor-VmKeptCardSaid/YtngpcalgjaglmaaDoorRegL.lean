/- A region that draws its order, whose last stores write cells that it reads: what is read may be taken first, since those stores wait for it. Free of any program. -/
import Derived.Test.YtngpcalgjaglmaaDoorReg
namespace Go
section
variable {P : Program} {ops : Array Oper} {Q : Exit → Act → World → Prop} {md : Region.Mode} {T : World → Prop} {z : Nat}

/-- Whatever order is drawn; T holds behind each operation till number z has come up. -/
def wpAnyLate (P : Program) (md : Region.Mode) (ops : Array Oper) (Q : Exit → Act → World → Prop) (T : World → Prop) (z : Nat) : Nat → Array Bool → Act → World → Prop
  | 0, listed, a, w => Region.ready md ops listed = [] ∧ Q .normal a w
  | n + 1, listed, a, w => (Region.ready md ops listed = [] → Q .normal a w) ∧
      ∀ i ∈ Region.ready md ops listed, wpOp P ops Q i (fun a' w' => ((listed.setIfInBounds i true).getD z true = false → T w') ∧ wpAnyLate P md ops Q T z n (listed.setIfInBounds i true) a' w') a w
theorem wpAny_of_late : ∀ (n : Nat) (listed : Array Bool) (a : Act) (w : World), wpAnyLate P md ops Q T z n listed a w → wpAny P md ops Q n listed a w
  | 0, _, _, _, h => h
  | n + 1, _, _, _, h => ⟨h.1, fun i hi => wpOp_mono (fun a' w' h' => wpAny_of_late n _ a' w' h'.2) (h.2 i hi)⟩
theorem lateStart {id : Nat} {a : Act} {w : World} (T : World → Prop) (z : Nat) (hm : P.follows .mixedOrders = true)
    (h : wpAnyLate P .any ops Q T z ops.size (Array.replicate ops.size false) a w.drew) : (Code.region id ops true).wp P Q a w := wp_region_any hm (wpAny_of_late _ _ _ _ h)

/-- Number z has not come up and waits for number i, which may come up now. -/
def lateWaits (md : Region.Mode) (ops : Array Oper) (listed : Array Bool) (z i : Nat) : Bool :=
  (Region.ready md ops listed).contains i && ((listed.getD z true == false) && (match ops[z]? with | some o => o.after.toList.any (fun e => Region.binds md e && e.on == i) | none => false))

theorem late_first {i : Nat} {oi oz : Oper} {v : Value} (hi : ops[i]? = some oi) (hz : ops[z]? = some oz) (hw : ∃ e ∈ oz.after, Region.binds md e = true ∧ e.on = i) (hsel : ∀ (j : Nat) (o : Oper) cs b, ops[j]? = some o → o.op ≠ .select cs b)
    (hQ : ∀ c a w, Q (.panic c) (a.put oi.dst v) w → Q (.panic c) a w) :
    ∀ (n : Nat) (listed : Array Bool) (a : Act) (w : World), (∀ j oj, ops[j]? = some oj → j ≠ i → listed.getD j true = false → (∀ e ∈ oj.after, Region.binds md e = true → e.on ≠ i) → oi.apart ops oj = true) →
      i ∈ Region.ready md ops listed → listed.getD z true = false → YieldsIf P ops T oi v a → T w →
      wpAnyLate P md ops Q T z n (listed.setIfInBounds i true) (a.put oi.dst v) w → wpAnyLate P md ops Q T z (n + 1) listed a w := by
  intro n
  induction n with
  | zero =>
    intro listed a w _ hr _ hy hT H
    refine ⟨fun h => absurd hr (by rw [h]; simp), fun j hj => ?_⟩
    by_cases e : j = i
    · subst e; exact hy.wpOp hi hT ⟨fun _ => hT, H⟩
    · exact absurd (ready_mono hj e) (by rw [H.1]; simp)
  | succ n ih =>
    intro listed a w hfree hr hzl hy hT H
    refine ⟨fun h => absurd hr (by rw [h]; simp), fun j hj => ?_⟩
    by_cases e : j = i
    · subst e; exact hy.wpOp hi hT ⟨fun _ => hT, H⟩
    · have hmr := mem_ready.1 hj
      obtain ⟨hju, oj, hoj, hall⟩ := hmr
      have hil : listed.getD i false = true → False := fun h => by
        have h0 := (mem_ready.1 hr).1
        rcases Nat.lt_or_ge i listed.size with h' | h'
        · simp [h'] at h0 h; rw [h0] at h; cases h
        · simp [Array.getElem?_eq_none h'] at h
      have hno : ∀ e ∈ oj.after, Region.binds md e = true → e.on ≠ i := fun e he hb heq => hil (by rw [← heq]; exact hall e he hb)
      have hjz : j ≠ z := by
        rintro rfl
        obtain ⟨e, he, hb, heq⟩ := hw
        obtain rfl : oj = oz := Option.some.inj (hoj.symm.trans hz)
        exact hno e he hb heq
      have hz2 : (listed.setIfInBounds j true).getD z true = false := by rw [getD_set_ne true hjz]; exact hzl
      have hiz : i ≠ z := by
        rintro rfl
        obtain ⟨e, he, hb, heq⟩ := hw
        obtain ⟨_, o', ho', hall'⟩ := mem_ready.1 hr
        obtain rfl : o' = oz := Option.some.inj (ho'.symm.trans hz)
        exact hil (by have := hall' e he hb; rw [heq] at this; exact this)
      refine wpOp_mono (fun a' w' h3 => ?_) (wpOp_putIf hoj (hfree j oj hoj e hju hno) (fun cs b => hsel i oi cs b hi) (fun cs b => hsel j oj cs b hoj) hQ hy (H.2 j (ready_mono hj e)))
      obtain ⟨hy', hT', hrest⟩ := h3
      have hTw : T w' := hT' (by rw [getD_set_ne true hjz, getD_set_ne true hiz]; exact hzl)
      refine ⟨fun _ => hTw, ih (listed.setIfInBounds j true) a' w' (fun k ok hk hki hun hn => hfree k ok hk hki ?_ hn) (ready_mono hr (Ne.symm e)) hz2 hy' hTw ?_⟩
      · by_cases hjk : j = k
        · subst hjk; exact hju
        · rw [getD_set_ne true hjk] at hun; exact hun
      · rw [Array.setIfInBounds_comm _ _ e]; exact hrest
theorem wpAnyLate_take {i : Nat} {oi : Oper} {v : Value} {n : Nat} {listed : Array Bool} {a : Act} {w : World} (hi : ops[i]? = some oi)
    (hs : Region.noSelect ops = true) (hf : Region.free md ops listed i = true) (hr : lateWaits md ops listed z i = true)
    (hQ : ∀ c a w, Q (.panic c) (a.put oi.dst v) w → Q (.panic c) a w) (hy : YieldsIf P ops T oi v a) (hT : T w)
    (h : wpAnyLate P md ops Q T z n (listed.setIfInBounds i true) (a.put oi.dst v) w) : wpAnyLate P md ops Q T z (n + 1) listed a w := by
  unfold lateWaits at hr
  rw [Bool.and_eq_true, Bool.and_eq_true] at hr
  obtain ⟨h1, h2, h3⟩ := hr
  split at h3
  case h_2 => cases h3
  rename_i oz hoz
  obtain ⟨e, he, hb⟩ := List.any_eq_true.1 h3
  rw [Bool.and_eq_true] at hb
  exact late_first hi hoz ⟨e, by simpa using he, hb.1, by simpa using hb.2⟩ (Region.noSelect_spec hs) hQ n listed a w (Region.free_spec hi hf) (by simpa using h1) (by simpa using h2) hy hT h
/-- What yields in whatever world may be taken first. -/
theorem late_pure {i : Nat} {oi : Oper} {v : Value} (hi : ops[i]? = some oi) (hiz : i ≠ z) (hsel : ∀ (j : Nat) (o : Oper) cs b, ops[j]? = some o → o.op ≠ .select cs b)
    (hQ : ∀ c a w, Q (.panic c) (a.put oi.dst v) w → Q (.panic c) a w) :
    ∀ (n : Nat) (listed : Array Bool) (a : Act) (w : World), (∀ j oj, ops[j]? = some oj → j ≠ i → listed.getD j true = false → (∀ e ∈ oj.after, Region.binds md e = true → e.on ≠ i) → oi.apart ops oj = true) →
      i ∈ Region.ready md ops listed → (listed.getD z true = false → T w) → YieldsIf P ops (fun _ => True) oi v a →
      wpAnyLate P md ops Q T z n (listed.setIfInBounds i true) (a.put oi.dst v) w → wpAnyLate P md ops Q T z (n + 1) listed a w := by
  intro n
  induction n with
  | zero =>
    intro listed a w _ hr hT hy H
    refine ⟨fun h => absurd hr (by rw [h]; simp), fun j hj => ?_⟩
    by_cases e : j = i
    · subst e; exact hy.wpOp hi trivial ⟨fun h => hT (by rw [getD_set_ne true hiz] at h; exact h), H⟩
    · exact absurd (ready_mono hj e) (by rw [H.1]; simp)
  | succ n ih =>
    intro listed a w hfree hr hT hy H
    refine ⟨fun h => absurd hr (by rw [h]; simp), fun j hj => ?_⟩
    by_cases e : j = i
    · subst e; exact hy.wpOp hi trivial ⟨fun h => hT (by rw [getD_set_ne true hiz] at h; exact h), H⟩
    · obtain ⟨hju, oj, hoj, hall⟩ := mem_ready.1 hj
      have hno : ∀ e ∈ oj.after, Region.binds md e = true → e.on ≠ i := fun e he hb heq => by
        have h := hall e he hb
        rw [heq] at h
        have h0 := (mem_ready.1 hr).1
        rcases Nat.lt_or_ge i listed.size with h' | h'
        · simp [h'] at h0 h; rw [h0] at h; cases h
        · simp [Array.getElem?_eq_none h'] at h
      refine wpOp_mono (fun a' w' h3 => ?_) (wpOp_putIf hoj (hfree j oj hoj e hju hno) (fun cs b => hsel i oi cs b hi) (fun cs b => hsel j oj cs b hoj) hQ hy (H.2 j (ready_mono hj e)))
      obtain ⟨hy', hT', hrest⟩ := h3
      have hTw : (listed.setIfInBounds j true).getD z true = false → T w' := fun h => hT' (by rw [Array.setIfInBounds_comm _ _ (Ne.symm e), getD_set_ne true hiz]; exact h)
      refine ⟨hTw, ih (listed.setIfInBounds j true) a' w' (fun k ok hk hki hun hn => hfree k ok hk hki ?_ hn) (ready_mono hr (Ne.symm e)) hTw hy' ?_⟩
      · by_cases hjk : j = k
        · subst hjk; exact hju
        · rw [getD_set_ne true hjk] at hun; exact hun
      · rw [Array.setIfInBounds_comm _ _ e]; exact hrest
theorem wpAnyLate_pure {i : Nat} {oi : Oper} {v : Value} {n : Nat} {listed : Array Bool} {a : Act} {w : World} (hi : ops[i]? = some oi)
    (hs : Region.noSelect ops = true) (hf : Region.free md ops listed i = true) (hr : ((Region.ready md ops listed).contains i && i != z) = true)
    (hQ : ∀ c a w, Q (.panic c) (a.put oi.dst v) w → Q (.panic c) a w) (hy : YieldsIf P ops (fun _ => True) oi v a) (hT : T w)
    (h : wpAnyLate P md ops Q T z n (listed.setIfInBounds i true) (a.put oi.dst v) w) : wpAnyLate P md ops Q T z (n + 1) listed a w := by
  rw [Bool.and_eq_true] at hr
  exact late_pure hi (by simpa using hr.2) (Region.noSelect_spec hs) hQ n listed a w (Region.free_spec hi hf) (by simpa using hr.1) (fun _ => hT) hy h
theorem lateDone {listed : Array Bool} {a : Act} {w : World} (hr : Region.ready md ops listed = []) (h : Q .normal a w) : ∀ n, wpAnyLate P md ops Q T z n listed a w
  | 0 => ⟨hr, h⟩
  | _ + 1 => ⟨fun _ => h, by rw [hr]; simp⟩
end
/-- One operation comes up, and no other; two may. -/
theorem lateOne {P : Program} {md : Region.Mode} {Q : Exit → Act → World → Prop} {T : World → Prop} {z : Nat} {l0 : List Oper} {i : Nat} {o : Oper} {n : Nat} {listed : Array Bool} {a : Act} {w : World} (hr : Region.ready md l0.toArray listed = [i]) (ho : l0[i]? = some o)
    (hw : Region.wanted o (yielded l0.toArray a.tmps) = true)
    (h : ∀ K : Act → World → Prop, Shut (∀ a' w', ((listed.setIfInBounds i true).getD z true = false → T w') → wpAnyLate P md l0.toArray Q T z n (listed.setIfInBounds i true) a' w' → K a' w') → o.wp P a w K Q) : wpAnyLate P md l0.toArray Q T z (n + 1) listed a w :=
  ⟨fun h0 => by rw [hr] at h0; simp at h0, fun k hk => by
    rw [hr] at hk
    obtain rfl : k = i := by simpa using hk
    unfold wpOp
    rw [show l0.toArray[k]? = some o by simpa using ho]; simp only [hw, if_true]
    exact .inl (h _ (fun a' w' hs hh => ⟨hs, hh⟩))⟩
theorem lateEither {P : Program} {md : Region.Mode} {Q : Exit → Act → World → Prop} {T : World → Prop} {z : Nat} {l0 : List Oper} {i j : Nat} {o o' : Oper} {n : Nat} {listed : Array Bool} {a : Act} {w : World} (hr : Region.ready md l0.toArray listed = [i, j]) (ho : l0[i]? = some o) (ho' : l0[j]? = some o')
    (hw : Region.wanted o (yielded l0.toArray a.tmps) = true) (hw' : Region.wanted o' (yielded l0.toArray a.tmps) = true)
    (h : ∀ K : Act → World → Prop, Shut (∀ a' w', ((listed.setIfInBounds i true).getD z true = false → T w') → wpAnyLate P md l0.toArray Q T z n (listed.setIfInBounds i true) a' w' → K a' w') → o.wp P a w K Q)
    (h' : ∀ K : Act → World → Prop, Shut (∀ a' w', ((listed.setIfInBounds j true).getD z true = false → T w') → wpAnyLate P md l0.toArray Q T z n (listed.setIfInBounds j true) a' w' → K a' w') → o'.wp P a w K Q) : wpAnyLate P md l0.toArray Q T z (n + 1) listed a w :=
  ⟨fun h0 => by rw [hr] at h0; simp at h0, fun k hk => by
    rw [hr] at hk
    rcases List.mem_cons.1 hk with rfl | hk
    · unfold wpOp
      rw [show l0.toArray[k]? = some o by simpa using ho]; simp only [hw, if_true]
      exact .inl (h _ (fun a' w' hs hh => ⟨hs, hh⟩))
    · obtain rfl : k = j := by simpa using hk
      unfold wpOp
      rw [show l0.toArray[k]? = some o' by simpa using ho']; simp only [hw', if_true]
      exact .inl (h' _ (fun a' w' hs hh => ⟨hs, hh⟩))⟩
end Go
