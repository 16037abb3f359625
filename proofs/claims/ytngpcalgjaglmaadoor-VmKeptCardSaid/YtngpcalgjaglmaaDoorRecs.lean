/- Structs of integers, by value and in slices, as a walk wants them. -/
import Derived.Test.YtngpcalgjaglmaaDoorNums
import Derived.Deep.Slices
import Derived.Deep.Fields
namespace Go.Proofs.YtngpcalgjaglmaaDoor
open Go.ChangeShapes Go.WideShapes Go.ChangeAt Go.RowKit Go.Deep

/-- A record's numbers fit its fields' kinds. -/
def RecOk (ks : List IntKind) (r : List Int) : Prop := r.length = ks.length ∧ ∀ (j : Nat) (z : Int) (k : IntKind), r[j]? = some z → ks[j]? = some k → (Lit.int k z).wf = true
/-- The cells behind ao are these records, one behind the other. -/
def Recs (ks : List IntKind) (w : World) (ao : Option Addr) (rs : List (List Int)) : Prop :=
  ∀ (i : Nat) (r : List Int), rs[i]? = some r → ∃ b off, ao = some ⟨b, off, none⟩ ∧ b < w.heap.size ∧ ∀ (j : Nat) (z : Int) (k : IntKind), r[j]? = some z → ks[j]? = some k → w.cell? ⟨b, off + i * ks.length + j, none⟩ = some (.int k z)
theorem Recs.keep {ks : List IntKind} {w w' : World} {ao : Option Addr} {rs : List (List Int)} (h : Recs ks w ao rs) (f : New w w') : Recs ks w' ao rs := fun i r hr => by
  obtain ⟨b, off, h1, h2, h3⟩ := h i r hr
  exact ⟨b, off, h1, Nat.lt_of_lt_of_le h2 f.size, fun j z k hz hk => (f.cell h2 id _).trans (h3 j z k hz hk)⟩

section
variable {H : Type} {enc : TypeId × Value → H} {P : Program} {w : World}
theorem open_fields {fs : Array Field} {e : TypeId} {fuel : Nat} {cs : List Value} {x : DataW H × List MemPlace} (ks : List IntKind) (hs : P.underlying e = some (.struct fs)) (hone : oneCellFields P fs = true)
    (hC : P.cellsOf e = ks.length) (hk : fs.toList.map (fun f => P.underlying f.type) = ks.map (fun k => some (.int k))) (h : DataW.trod enc P w 0 (fun _ => true) true fuel e cs = some x) :
    ∃ r : List Int, RecOk ks r ∧ ∀ (j : Nat) (z : Int) (k : IntKind), r[j]? = some z → ks[j]? = some k → cs[j]? = some (.int k z) := by
  obtain ⟨xs, n, _, _, hl, hlen, hg⟩ := DataW.trod_struct hs h
  have hfl : fs.size = ks.length := by have := congrArg List.length hk; simpa using this
  have hat : ∀ (j : Nat) (k : IntKind), ks[j]? = some k → ∃ z, cs[j]? = some (.int k z) ∧ (Lit.int k z).wf = true := by
    intro j k hj
    have hjl := (List.getElem?_eq_some_iff.1 hj).1
    obtain ⟨f, hf⟩ : ∃ f, fs[j]? = some f := ⟨fs[j]'(by omega), by simp⟩
    obtain ⟨h1, h2⟩ := hone_of hone j f hf
    have hu : P.underlying f.type = some (.int k) := by
      have := congrArg (·[j]?) hk
      simp only [List.getElem?_map, Array.getElem?_toList, hf, hj, Option.map_some] at this
      exact Option.some.inj this
    have ht := hg j f hf
    obtain ⟨y, hy⟩ : ∃ y, xs[j]? = some y := ⟨xs[j]'(by omega), by simp⟩
    rw [h1, h2, hy] at ht
    obtain ⟨z, hz1, _, hz2⟩ := DataW.trod_int hu ht
    refine ⟨z, ?_, hz2⟩
    have := congrArg (·[0]?) hz1
    simpa [List.getElem?_take, List.getElem?_drop] using this
  refine ⟨cs.map fun v => match v with | .int _ z => z | _ => 0, ⟨by simp; omega, fun j z k hz hj => ?_⟩, fun j z k hz hj => ?_⟩
  · obtain ⟨z', h1, h2⟩ := hat j k hj
    simp [h1] at hz; subst hz; exact h2
  · obtain ⟨z', h1, h2⟩ := hat j k hj
    simp [h1] at hz; subst hz; exact h1

theorem open_rec {t : TypeId} {fs : Array Field} {r : Reach} {b0 : Nat} {v : Value} {d : DataW H} {p : List MemPlace} (ks : List IntKind) (hs : P.underlying t = some (.struct fs)) (hone : oneCellFields P fs = true)
    (hC : P.cellsOf t = ks.length) (hk : fs.toList.map (fun f => P.underlying f.type) = ks.map (fun k => some (.int k)))
    (hv : Value.okWide P w r b0 t v) (h : DataW.Trod enc P w 0 (fun _ => true) true t v d p) :
    ∃ zs : List Int, RecOk ks zs ∧ v = .agg (List.zipWith Value.int ks zs).toArray := by
  obtain ⟨cs, rfl, hsz⟩ := okWide_struct hs hv
  obtain ⟨fuel, hf⟩ := h
  obtain ⟨zs, h1, h2⟩ := open_fields ks hs hone hC hk hf
  refine ⟨zs, h1, ?_⟩
  congr 1
  apply Array.ext_getElem?
  intro j
  by_cases hj : j < ks.length
  · have hz : j < zs.length := by rw [h1.1]; exact hj
    have := h2 j zs[j] ks[j] (by simp) (by simp)
    simp [Value.cells] at this
    simp [this, List.getElem?_zipWith, hj, hz]
  · rw [Array.getElem?_eq_none (by omega), List.getElem?_toArray, List.getElem?_eq_none (by simp; omega)]

theorem open_recs {t e : TypeId} {fs : Array Field} {a0 : Option Addr} {len0 cap0 : Nat} {d : DataW H} {p : List MemPlace} (ks : List IntKind) (ht : P.underlying t = some (.slice e)) (hs : P.underlying e = some (.struct fs)) (hone : oneCellFields P fs = true)
    (hC : P.cellsOf e = ks.length) (hk : fs.toList.map (fun f => P.underlying f.type) = ks.map (fun k => some (.int k))) (h0 : 0 < ks.length) (h : DataW.Trod enc P w 0 (fun _ => true) true t (.slice a0 len0 cap0) d p) :
    ∃ rs : List (List Int), rs.length = len0 ∧ len0 ≤ maxLen ∧ (∀ r ∈ rs, RecOk ks r) ∧ Recs ks w a0 rs := by
  obtain ⟨fuel, hf⟩ := h
  rcases open_slice ht hf with ⟨hcs, _⟩ | ⟨a, l, c, m, n, D, Pl, hcs, _, hl, hm, hmm, _, hel⟩
  · simp [Value.cells] at hcs
    obtain ⟨rfl, rfl, rfl⟩ := hcs
    exact ⟨[], rfl, by unfold maxLen; omega, fun r hr => by simp at hr, fun i r hr => by simp at hr⟩
  · simp [Value.cells] at hcs
    obtain ⟨rfl, rfl, rfl⟩ := hcs
    simp only [if_true] at hmm
    have hrow : ∀ i, i < len0 → ∃ r, RecOk ks r ∧ ∃ b off, a = ⟨b, off, none⟩ ∧ b < w.heap.size ∧ ∀ (j : Nat) (z : Int) (k : IntKind), r[j]? = some z → ks[j]? = some k → w.cell? ⟨b, off + i * ks.length + j, none⟩ = some (.int k z) := by
      intro i hi
      obtain ⟨cs', hc, htr⟩ := hel i (by omega)
      obtain ⟨r, hr1, hr2⟩ := open_fields ks hs hone hC hk htr
      rw [hC] at hc
      obtain ⟨_, hlen', hcell⟩ := World.cells?_some hc
      have hspot : a.spot = none := by
        obtain ⟨cs0, hc0, _⟩ := hel 0 (by omega)
        rw [hC] at hc0
        obtain ⟨_, hl0, hcell0⟩ := World.cells?_some hc0
        have := hcell0 0 h0
        simp only [Nat.zero_mul, Addr.add, if_true] at this
        exact World.cell?_spot (this.trans (List.getElem?_eq_getElem (by omega)))
      obtain ⟨v0, hv0⟩ : ∃ v, w.cell? (a.add (i * ks.length)) = some v := by
        have := hcell 0 h0
        rw [show (a.add (i * ks.length)).add 0 = a.add (i * ks.length) from by simp [Addr.add]] at this
        exact ⟨_, this.trans (List.getElem?_eq_getElem (by omega))⟩
      obtain ⟨b, off, spot⟩ := a
      simp only at hspot
      subst hspot
      have hadd : ∀ q, (⟨b, off, none⟩ : Addr).add q = ⟨b, off + q, none⟩ := fun q => by unfold Addr.add; split <;> simp_all
      have hadd2 : ∀ o q, (⟨b, o, none⟩ : Addr).add q = ⟨b, o + q, none⟩ := fun o q => by unfold Addr.add; split <;> simp_all
      rw [hadd] at hv0
      refine ⟨r, hr1, b, off, rfl, World.block_lt_of_cell? _ _ hv0, fun j z k hz hk' => ?_⟩
      have hjl : j < ks.length := (List.getElem?_eq_some_iff.1 hk').1
      have := hcell j hjl
      rw [hadd, hadd2] at this
      exact this.trans (hr2 j z k hz hk')
    have hch : ∃ f : Nat → List Int, ∀ i, i < len0 → RecOk ks (f i) ∧ ∃ b off, a = ⟨b, off, none⟩ ∧ b < w.heap.size ∧ ∀ (j : Nat) (z : Int) (k : IntKind), (f i)[j]? = some z → ks[j]? = some k → w.cell? ⟨b, off + i * ks.length + j, none⟩ = some (.int k z) := by
      refine ⟨fun i => if hi : i < len0 then Classical.choose (hrow i hi) else [], fun i hi => ?_⟩
      simp only [hi, dif_pos]
      exact Classical.choose_spec (hrow i hi)
    obtain ⟨f, hf'⟩ := hch
    refine ⟨(List.range len0).map f, by simp, by omega, fun r hr => ?_, fun i r hr => ?_⟩
    · obtain ⟨i, hi, rfl⟩ := List.mem_map.1 hr
      exact (hf' i (List.mem_range.1 hi)).1
    · have hi : i < len0 := by have := (List.getElem?_eq_some_iff.1 hr).1; simpa using this
      have hr' : f i = r := by simpa [hi] using hr
      subst hr'
      obtain ⟨b, off, e1, h1, h2⟩ := (hf' i hi).2
      exact ⟨b, off, by rw [e1], h1, h2⟩
end

end Go.Proofs.YtngpcalgjaglmaaDoor
