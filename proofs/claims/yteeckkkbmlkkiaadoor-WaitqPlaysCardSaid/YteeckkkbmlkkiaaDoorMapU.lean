/- A map from numbers to values of any kind, read as a function: what its operations do. Free of any program. -/
import Derived.Test.YteeckkkbmlkkiaaDoorLib
import Derived.Maps.OwnSet
import Derived.Maps.Views
namespace Go.Proofs.YteeckkkbmlkkiaaDoor
open Go.Maps Go.RowKit

/-- An element, as it stands. -/
def asIs (v : Value) : Option (DataW Value × List MemPlace) := some (.held v, [])

/-- Block b is a map of n entries: who has the key x has f x. -/
def MapIs (P : Program) (K : TypeId) (q : IntKind) (w : World) (b n : Nat) (f : Int → Option Value) : Prop :=
  ∃ D, w.ownsMap P K asIs b n D ∧ Maps.size D = n ∧ ∀ x : Int, (Lit.int q x).wf = true → (Maps.has D (.int q x) = (f x).isSome ∧ ∀ v, f x = some v → ∀ z, D.atKey (.int q x) z = .held v)

section
variable {P : Program} {K E T : TypeId} {q : IntKind} {w w' : World} {b n : Nat} {f : Int → Option Value}

theorem MapIs.made (P : Program) (K : TypeId) (q : IntKind) (w : World) : MapIs P K q (w.alloc (.map #[] 0)) w.heap.size 0 (fun _ => none) :=
  ⟨.map [], World.ownsMap_made w P K asIs, rfl, fun x _ => ⟨rfl, fun v h => by cases h⟩⟩
theorem MapIs.lt (h : MapIs P K q w b n f) : b < w.heap.size := by obtain ⟨D, h, _⟩ := h; exact h.lt
theorem MapIs.keep {S : Nat → Prop} (h : MapIs P K q w b n f) (fr : Fr S w w') (hs : ¬ S b) : MapIs P K q w' b n f := by
  have hlt := h.lt
  obtain ⟨D, ⟨es, clock, hb, r⟩, h2⟩ := h
  exact ⟨D, ⟨es, clock, by rw [fr.block b hlt hs]; exact hb, r⟩, h2⟩
/-- The block of a map is no block of cells. -/
theorem MapIs.apart (h : MapIs P K q w b n f) {b' : Nat} {c : Array Value} {T' : TypeId} {z : Nat × Nat} (hb : w.heap[b']? = some (.cells c T' z)) : b ≠ b' := by
  rintro rfl
  obtain ⟨D, ⟨es, clock, h1, _⟩, _⟩ := h
  rw [hb] at h1; cases h1
theorem MapIs.apartCell (h : MapIs P K q w b n f) {b' o : Nat} {v : Value} (hb : w.cell? ⟨b', o, none⟩ = some v) : b ≠ b' := by
  rintro rfl
  obtain ⟨D, ⟨es, clock, h1, _⟩, _⟩ := h
  simp [World.cell?, h1] at hb

theorem MapIs.look2 (h : MapIs P K q w b n f) (hk : P.underlying K = some (.int q)) (ht : P.underlying T = some (.map K E)) {z : Value} (hz : (zeroValue E).run P w = .ok z w) {x : Int} (hw : (Lit.int q x).wf = true) :
    (Instr.lookup T (.map (some b)) (.int q x) true).run P w = .ok (.tuple #[(f x).getD z, .bool (f x).isSome]) w := by
  obtain ⟨D, h1, _, h3⟩ := h
  obtain ⟨v, ps, hrun, hv⟩ := h1.look_ok (int_keyed hk) ht hz (zd := .held z) (zp := []) rfl (keyOf_int_mk hk hw)
  obtain ⟨h4, h5⟩ := h3 x hw
  rw [hrun, h4]
  have hv' : DataW.held v = D.atKey (.int q x) (.held z) := by simpa [asIs] using (Prod.mk.inj (Option.some.inj hv)).1
  cases hf : f x with
  | some u => rw [h5 u hf] at hv'; cases hv'; rfl
  | none =>
    rw [hf] at h4
    rw [atKey_of_not_has (by rw [h4]; rfl)] at hv'
    cases hv'; rfl
theorem MapIs.look1 (h : MapIs P K q w b n f) (hk : P.underlying K = some (.int q)) (ht : P.underlying T = some (.map K E)) {z : Value} (hz : (zeroValue E).run P w = .ok z w) {x : Int} (hw : (Lit.int q x).wf = true) :
    (Instr.lookup T (.map (some b)) (.int q x) false).run P w = .ok ((f x).getD z) w := by
  obtain ⟨D, h1, _, h3⟩ := h
  obtain ⟨v, ps, hrun, hv⟩ := h1.lookup (int_keyed hk) ht hz (zd := .held z) (zp := []) rfl (keyOf_int_mk hk hw)
  obtain ⟨h4, h5⟩ := h3 x hw
  rw [hrun]
  have hv' : DataW.held v = D.atKey (.int q x) (.held z) := by simpa [asIs] using (Prod.mk.inj (Option.some.inj hv)).1
  cases hf : f x with
  | some u => rw [h5 u hf] at hv'; cases hv'; rfl
  | none =>
    rw [hf] at h4
    rw [atKey_of_not_has (by rw [h4]; rfl)] at hv'
    cases hv'; rfl
theorem MapIs.len (h : MapIs P K q w b n f) (ht : P.underlying T = some (.map K E)) (ty : TypeId) : (Builtin.len_ #[T] ty #[.map (some b)]).run P w = .ok (.int .i64 n) w := by
  obtain ⟨D, h1, h2, _⟩ := h
  rw [h1.len ht ty, h2]
theorem MapIs.store (h : MapIs P K q w b n f) (hk : P.underlying K = some (.int q)) (ht : P.underlying T = some (.map K E)) (hn : n < maxLen) (v : Value) {x : Int} (hw : (Lit.int q x).wf = true) :
    ∃ w', (Instr.mapUpdate T (.map (some b)) (.int q x) v).run P w = .ok () w' ∧ MapIs P K q w' b (if (f x).isSome then n else n + 1) (fun y => if y = x then some v else f y) ∧ Fr (· = b) w w' := by
  obtain ⟨D, h1, h2, h3⟩ := h
  have hkey := keyOf_int_mk hk hw
  obtain ⟨w', hrun, h4, h5⟩ := h1.update (int_keyed hk) ht hn hkey (d := .held v) (ps := []) (val := v) rfl
  have hK := (int_keyed hk).one.key ⟨_, hkey⟩
  have hT := h1.tidy (int_keyed hk)
  have hs := size_put hT (k := .int q x) (.held v)
  rw [(h3 x hw).1, h2] at hs
  refine ⟨w', hrun, ⟨D.put (.int q x) (.held v), ?_, hs, fun y hy => ?_⟩, ⟨h5.os, h5.tape, h5.output, h5.size, fun k hk hs => h5.block k hk (fun e => hs (Option.some.inj e))⟩⟩
  · obtain ⟨es, clock, e1, e2, e3, e4⟩ := h4
    refine ⟨es, clock, e1, e2, ?_, e4⟩
    rw [← hs, e4]; simp [Maps.size, length_sorted]
  · by_cases e : y = x
    · subst e
      refine ⟨by simp [has_put_same hT.isMap hK], fun u hu z => ?_⟩
      simp at hu; subst hu
      exact atKey_put_same hT.isMap hK _ _
    · have hne : Lit.int q y ≠ Lit.int q x := fun e' => e (by cases e'; rfl)
      rw [has_put_other hne]
      simp only [if_neg e]
      exact ⟨(h3 y hy).1, fun u hu z => by rw [atKey_put_other hne]; exact (h3 y hy).2 u hu z⟩
theorem MapIs.drop (h : MapIs P K q w b n f) (hk : P.underlying K = some (.int q)) (ht : P.underlying T = some (.map K E)) (ty : TypeId) {x : Int} (hw : (Lit.int q x).wf = true) :
    ∃ w', (Builtin.delete_ #[T, K] ty #[.map (some b), .int q x]).run P w = .ok (.tuple #[]) w' ∧ MapIs P K q w' b (if (f x).isSome then n - 1 else n) (fun y => if y = x then none else f y) ∧ Fr (· = b) w w' := by
  obtain ⟨D, h1, h2, h3⟩ := h
  have hkey := keyOf_int_mk hk hw
  obtain ⟨w', hrun, h4, h5⟩ := h1.drop (int_keyed hk) ht hkey ty
  have hT := h1.tidy (int_keyed hk)
  have hs := size_del hT (k := .int q x)
  rw [(h3 x hw).1, h2] at hs
  have hs' : Maps.size (D.del (.int q x)) = if (f x).isSome then n - 1 else n := by
    cases hh : (f x).isSome
    · rw [hh] at hs; simpa using hs
    · rw [hh] at hs; simp at hs ⊢; omega
  have h5' := h5.grown
  refine ⟨w', hrun, ⟨D.del (.int q x), ?_, hs', fun y hy => ?_⟩, ⟨h5'.os, h5'.tape, h5'.output, h5'.size, fun k hk hs => h5'.block k hk (fun e => hs (Option.some.inj e))⟩⟩
  · obtain ⟨es, clock, e1, e2, e3, e4⟩ := h4
    refine ⟨es, clock, e1, e2, ?_, e4⟩
    rw [← hs', e4]; simp [Maps.size, length_sorted]
  · by_cases e : y = x
    · subst e
      exact ⟨by simp [has_del_same], fun u hu => by simp at hu⟩
    · have hne : Lit.int q y ≠ Lit.int q x := fun e' => e (by cases e'; rfl)
      rw [has_del_other hne]
      simp only [if_neg e]
      exact ⟨(h3 y hy).1, fun u hu z => by rw [atKey_del_other hne]; exact (h3 y hy).2 u hu z⟩
/-- Only keys that are numbers count. -/
theorem MapIs.congr (h : MapIs P K q w b n f) {g : Int → Option Value} (hg : ∀ x, (Lit.int q x).wf = true → g x = f x) : MapIs P K q w b n g := by
  obtain ⟨D, h1, h2, h3⟩ := h
  exact ⟨D, h1, h2, fun x hx => by rw [hg x hx]; exact h3 x hx⟩
end

section
variable {P : Program} {w : World} {ops : Array Oper} {rest : List Oper} {o : Oper} {a : Act} {Q : Exit → Act → World → Prop}

theorem wpList_store_mapIs (hg : o.guard = none) (m x v : Operand) (t : TypeId) (hop : o.op = Op.mapUpdate t m x v) (K E : TypeId) (q : IntKind) (hk : P.underlying K = some (.int q)) (ht : P.underlying t = some (.map K E)) (b n : Nat) (f : Int → Option Value)
    (hm : a.eval m = .map (some b)) (h : MapIs P K q w b n f) (hn : n < maxLen) (xi : Int) (val : Value) (hx : a.eval x = .int q xi) (hv : a.eval v = val) (hw : (Lit.int q xi).wf = true)
    (hK : ∀ w', MapIs P K q w' b (if (f xi).isSome then n else n + 1) (fun y => if y = xi then some val else f y) → Fr (· = b) w w' → wpList P ops Q rest (a.put o.dst undef) w') :
    wpList P ops Q (o :: rest) a w := by
  refine wpList_plain hg fun K' hK' => ?_
  obtain ⟨w', hrun, r1, r2⟩ := h.store hk ht hn val hw
  unfold Oper.wp
  simp [execOp, hop, hm, hx, hv, hrun, Result.andThen]
  exact hK' _ _ (hK w' r1 r2)
theorem wpList_delete_mapIs (hg : o.guard = none) (m x : Operand) (t K : TypeId) (hop : o.op = Op.call { callee := Callee.builtin Builtin.delete, args := #[m, x], argTypes := #[t, K] }) (E : TypeId) (q : IntKind) (hk : P.underlying K = some (.int q)) (ht : P.underlying t = some (.map K E)) (b n : Nat) (f : Int → Option Value)
    (hm : a.eval m = .map (some b)) (h : MapIs P K q w b n f) (xi : Int) (hx : a.eval x = .int q xi) (hw : (Lit.int q xi).wf = true)
    (hK : ∀ w', MapIs P K q w' b (if (f xi).isSome then n - 1 else n) (fun y => if y = xi then none else f y) → Fr (· = b) w w' → wpList P ops Q rest (a.put o.dst (.tuple #[])) w') :
    wpList P ops Q (o :: rest) a w := by
  obtain ⟨D, h1, h2, h3⟩ := id h
  refine wpList_delete_own w hg m x t K hop E (int_keyed hk) ht asIs b n D hm h1 (.int q xi) _ hx (keyOf_int_mk hk hw) fun w' h4 h5 => ?_
  have hT := h1.tidy (int_keyed hk)
  have hs := size_del hT (k := .int q xi)
  rw [(h3 xi hw).1, h2] at hs
  have hs' : Maps.size (D.del (.int q xi)) = if (f xi).isSome then n - 1 else n := by
    cases hh : (f xi).isSome
    · rw [hh] at hs; simpa using hs
    · rw [hh] at hs; simp at hs ⊢; omega
  have h5' := h5.grown
  refine hK w' ⟨D.del (.int q xi), ?_, hs', fun y hy => ?_⟩ ⟨h5'.os, h5'.tape, h5'.output, h5'.size, fun k hk hs => h5'.block k hk (fun e => hs (Option.some.inj e))⟩
  · obtain ⟨es, clock, e1, e2, e3, e4⟩ := h4
    refine ⟨es, clock, e1, e2, ?_, e4⟩
    rw [← hs', e4]; simp [Maps.size, length_sorted]
  · by_cases e : y = xi
    · subst e
      exact ⟨by simp [has_del_same], fun u hu => by simp at hu⟩
    · have hne : Lit.int q y ≠ Lit.int q xi := fun e' => e (by cases e'; rfl)
      rw [has_del_other hne]
      simp only [if_neg e]
      exact ⟨(h3 y hy).1, fun u hu z => by rw [atKey_del_other hne]; exact (h3 y hy).2 u hu z⟩
end

end Go.Proofs.YteeckkkbmlkkiaaDoor
