/- A client's program that came in, as a walk wants it. -/
import Derived.Test.YtkpliapmllabaaaDoorCodeC
import Derived.SizedLaws
import Derived.ProofKit
import Derived.OpenShut
import Derived.ChangeSlices
import Derived.Deep.Slices
import Derived.Deep.Fields
namespace Go.Proofs.YtkpliapmllabaaaDoor
open Go.ChangeShapes Go.WideShapes Go.ChangeAt Go.RowKit Go.Deep

/-- The bytes that a slice within a struct reaches. -/
theorem field_reach {H : Type} {P : Program} {ts : List TypeId} {ds : List (DataW H)} {j i : Nat} {t e : TypeId} {fs : Array Field} {f : Field} {parts elems spare : List (DataW H)} (hz : (DataW.weightsEach P ts ds).all (· ≤ reachBytes) = true) (htj : ts[j]? = some t) (hdj : ds[j]? = some (.agg parts))
    (hs : P.underlying t = some (.struct fs)) (hf : fs[i]? = some f) (hp : parts[i]? = some (.slice elems spare)) (hu : P.underlying f.type = some (.slice e)) : (elems.length + spare.length) * P.bytesOf e ≤ reachBytes := by
  have h1 : (elems.length + spare.length) * P.bytesOf e ∈ DataW.weights P f.type (.slice elems spare) := by simp [DataW.weights, hu]
  have h2 : (elems.length + spare.length) * P.bytesOf e ∈ DataW.weightsEach P (fs.toList.map (·.type)) parts := DataW.weights_mem_each (t := f.type) (by simp [hf]) hp _ h1
  have h3 : (elems.length + spare.length) * P.bytesOf e ∈ DataW.weights P t (.agg parts) := by simp only [DataW.weights, hs]; exact h2
  have := List.all_eq_true.1 hz _ (DataW.weights_mem_each htj hdj _ h3)
  simpa using this

/-- A slice at a place within a struct: what stands there, and what it reaches. -/
theorem slice_in {H : Type} {enc : TypeId × Value → H} {P : Program} {w : World} {t e : TypeId} {fuel : Nat} {cs : List Value} {x : DataW H × List MemPlace} (ht : P.underlying t = some (.slice e)) (h : DataW.trod enc P w 0 (fun _ => true) true fuel t cs = some x) :
    ∃ a n c, cs = [.slice a n c] ∧ DataW.Trod enc P w 0 (fun _ => true) true t (.slice a n c) x.1 x.2 ∧ (n = 0 ∨ ∃ elems spare, x.1 = .slice elems spare ∧ elems.length = n) := by
  rcases open_slice ht h with ⟨rfl, _⟩ | ⟨a, l, c, m, n, D, Pl, rfl, _, hl, hm, hmm, rfl, hel⟩
  · exact ⟨none, 0, 0, rfl, ⟨fuel, h⟩, .inl rfl⟩
  · exact ⟨some a, l, c, rfl, ⟨fuel, h⟩, .inr ⟨_, _, rfl, by simp⟩⟩

set_option maxRecDepth 100000 in
theorem open_prog {H : Type} {enc : TypeId × Value → H} {w : World} {r : Reach} {b0 : Nat} {v : Value} {d : DataW H} {p : List MemPlace} {ts : List TypeId} {ds : List (DataW H)} {j : Nat}
    (hv : Value.okWide Tryd.prog w r b0 49 v) (h : DataW.Trod enc Tryd.prog w 0 (fun _ => true) true 49 v d p) (hz : (DataW.weightsEach Tryd.prog ts ds).all (· ≤ reachBytes) = true) (htj : ts[j]? = some 49) (hdj : ds[j]? = some d) :
    ∃ (rs : List (List Int)) (ao : Option Addr) (ca : Nat) (E W N : Int), v = .agg #[.slice ao rs.length ca, .int .i64 E, .int .i64 W, .int .i64 N] ∧ (∀ r ∈ rs, RecOk insKs r) ∧ Recs insKs w ao rs ∧ rs.length * 56 ≤ 140737488355328 ∧
      (-9223372036854775808 ≤ E ∧ E ≤ 9223372036854775807) ∧ (-9223372036854775808 ≤ W ∧ W ≤ 9223372036854775807) ∧ (-9223372036854775808 ≤ N ∧ N ≤ 9223372036854775807) := by
  obtain ⟨cs, rfl, hsz⟩ := okWide_struct Tryd.underlying49 hv
  obtain ⟨fuel, hf⟩ := h
  obtain ⟨xs, n, _, hx, hl, hlen, hg⟩ := DataW.trod_struct Tryd.underlying49 hf
  obtain ⟨hd, hpp⟩ := Prod.mk.inj hx
  subst hd
  have hC : Tryd.prog.cellsOf 49 = 4 := by kernel_rfl
  rw [hC] at hsz
  obtain ⟨c0, c1, c2, c3, rfl⟩ : ∃ c0 c1 c2 c3, cs = #[c0, c1, c2, c3] := by
    obtain ⟨l⟩ := cs
    match l, hsz with
    | [c0, c1, c2, c3], _ => exact ⟨c0, c1, c2, c3, rfl⟩
  obtain ⟨x0, x1, x2, x3, rfl⟩ : ∃ x0 x1 x2 x3, xs = [x0, x1, x2, x3] := by
    match xs, hlen with
    | [x0, x1, x2, x3], _ => exact ⟨x0, x1, x2, x3, rfl⟩
  have h1 : Tryd.prog.cellsOf 3 = 1 := by kernel_rfl
  have h2 : Tryd.prog.cellsOf 22 = 1 := by kernel_rfl
  have g0 := hg 0 _ rfl
  have g1 := hg 1 _ rfl
  have g2 := hg 2 _ rfl
  have g3 := hg 3 _ rfl
  simp only [Value.cells] at g0 g1 g2 g3
  obtain ⟨E, e1, _, b1⟩ := DataW.trod_int Tryd.underlying3 g1
  obtain ⟨W, e2, _, b2⟩ := DataW.trod_int Tryd.underlying3 g2
  obtain ⟨N, e3, _, b3⟩ := DataW.trod_int Tryd.underlying3 g3
  obtain rfl : c1 = .int .i64 E := by simpa [h1] using e1
  obtain rfl : c2 = .int .i64 W := by simpa [h1] using e2
  obtain rfl : c3 = .int .i64 N := by simpa [h1] using e3
  obtain ⟨a, m, c, e0, ht, hw⟩ := slice_in Tryd.underlying22 g0
  obtain rfl : c0 = .slice a m c := by simpa [h2] using e0
  obtain ⟨rs, rfl, hm, hfit, hrecs⟩ := open_recs insKs Tryd.underlying22 Tryd.underlying42 (by kernel_rfl) (by kernel_rfl) (by kernel_rfl) (by decide) ht
  refine ⟨rs, a, c, E, W, N, rfl, hfit, hrecs, ?_, bounds_i64 b1, bounds_i64 b2, bounds_i64 b3⟩
  rcases hw with hw | ⟨elems, spare, hw1, hw2⟩
  · rw [hw]; omega
  · have hb : Tryd.prog.bytesOf 42 = 56 := by kernel_rfl
    have hr := field_reach (i := 0) (elems := elems) (spare := spare) hz htj hdj Tryd.underlying49 rfl (by rw [← hw1]; rfl) Tryd.underlying22
    rw [hb] at hr
    simp only [reachBytes] at hr
    omega

end Go.Proofs.YtkpliapmllabaaaDoor
