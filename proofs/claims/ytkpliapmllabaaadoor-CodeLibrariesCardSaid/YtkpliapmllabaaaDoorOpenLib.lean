/- A library that came in, as a walk wants it. -/
import Derived.Test.YtkpliapmllabaaaDoorOpenProg
import Derived.Test.YtkpliapmllabaaaDoorLibA
import Derived.Laws.IdiomArrays
namespace Go.Proofs.YtkpliapmllabaaaDoor
open Go.ChangeShapes Go.WideShapes Go.ChangeAt Go.RowKit Go.Deep

def RwOk (r : Rw) : Prop := (-9223372036854775808 ≤ r.num ∧ r.num ≤ 9223372036854775807) ∧ (-9223372036854775808 ≤ r.at_ ∧ r.at_ ≤ 9223372036854775807)
set_option maxRecDepth 100000 in
theorem open_row {H : Type} {enc : TypeId × Value → H} {w : World} {fuel : Nat} {cs : List Value} {x : DataW H × List MemPlace} (h : DataW.trod enc Tryd.prog w 0 (fun _ => true) true fuel 77 cs = some x) :
    ∃ r : Rw, cs = rwC r ∧ RwOk r := by
  obtain ⟨xs, n, _, _, hl, hlen, hg⟩ := DataW.trod_struct Tryd.underlying77 h
  have hC : Tryd.prog.cellsOf 77 = 6 := by kernel_rfl
  have h1 : Tryd.prog.cellsOf 3 = 1 := by kernel_rfl
  have h4 : Tryd.prog.cellsOf 75 = 4 := by kernel_rfl
  rw [hC] at hl
  obtain ⟨c0, c1, c2, c3, c4, c5, rfl⟩ : ∃ c0 c1 c2 c3 c4 c5, cs = [c0, c1, c2, c3, c4, c5] := by
    match cs, hl with
    | [c0, c1, c2, c3, c4, c5], _ => exact ⟨c0, c1, c2, c3, c4, c5, rfl⟩
  obtain ⟨x0, x1, x2, rfl⟩ : ∃ x0 x1 x2, xs = [x0, x1, x2] := by
    match xs, hlen with
    | [x0, x1, x2], _ => exact ⟨x0, x1, x2, rfl⟩
  have g0 := hg 0 _ rfl
  have g1 := hg 1 _ rfl
  have g2 := hg 2 _ rfl
  obtain ⟨num, e0, _, b0⟩ := DataW.trod_int Tryd.underlying3 g0
  obtain ⟨at_, e1, _, b1⟩ := DataW.trod_int Tryd.underlying3 g1
  obtain rfl : c0 = .int .i64 num := by simpa [h1] using e0
  obtain rfl : c1 = .int .i64 at_ := by simpa [h1] using e1
  have g2' : DataW.trod enc Tryd.prog w 0 (fun _ => true) true n 75 [c2, c3, c4, c5] = some x2 := by simpa [h4] using g2
  obtain ⟨y0, y1, y2, y3, m, _, k0, k1, k2, k3⟩ := trod_array4 Tryd.underlying75 h1 g2'
  obtain ⟨z0, e2, _, _⟩ := DataW.trod_int Tryd.underlying3 k0
  obtain ⟨z1, e3, _, _⟩ := DataW.trod_int Tryd.underlying3 k1
  obtain ⟨z2, e4, _, _⟩ := DataW.trod_int Tryd.underlying3 k2
  obtain ⟨z3, e5, _, _⟩ := DataW.trod_int Tryd.underlying3 k3
  simp only [List.cons.injEq, and_true] at e2 e3 e4 e5
  subst e2 e3 e4 e5
  exact ⟨⟨num, at_, z0, z1, z2, z3⟩, rfl, bounds_i64 b0, bounds_i64 b1⟩

theorem open_rows {H : Type} {enc : TypeId × Value → H} {w : World} {a0 : Option Addr} {len0 cap0 : Nat} {d : DataW H} {p : List MemPlace}
    (h : DataW.Trod enc Tryd.prog w 0 (fun _ => true) true 55 (.slice a0 len0 cap0) d p) :
    ∃ l : List Rw, l.length = len0 ∧ len0 ≤ maxLen ∧ (∀ r ∈ l, RwOk r) ∧ RowsR w a0 l := by
  have hC : Tryd.prog.cellsOf 77 = 6 := by kernel_rfl
  obtain ⟨fuel, hf⟩ := h
  rcases open_slice Tryd.underlying55 hf with ⟨hcs, _⟩ | ⟨a, l, c, m, n, D, Pl, hcs, _, hl, hm, hmm, _, hel⟩
  · simp [Value.cells] at hcs
    obtain ⟨rfl, rfl, rfl⟩ := hcs
    exact ⟨[], rfl, by unfold maxLen; omega, fun r hr => by simp at hr, fun i r hr => by simp at hr⟩
  · simp [Value.cells] at hcs
    obtain ⟨rfl, rfl, rfl⟩ := hcs
    simp only [if_true] at hmm
    rw [hC] at hel
    have hrow : ∀ i, i < len0 → ∃ r : Rw, RwOk r ∧ ∃ b off, a = ⟨b, off, none⟩ ∧ b < w.heap.size ∧ ∀ j u, (rwC r)[j]? = some u → w.cell? ⟨b, off + i * 6 + j, none⟩ = some u := by
      intro i hi
      obtain ⟨cs', hc, htr⟩ := hel i (by omega)
      obtain ⟨r, rfl, hr⟩ := open_row htr
      obtain ⟨_, hlen', hcell⟩ := World.cells?_some hc
      have hspot : a.spot = none := by
        obtain ⟨cs0, hc0, _⟩ := hel 0 (by omega)
        obtain ⟨_, hl0, hcell0⟩ := World.cells?_some hc0
        have := hcell0 0 (by omega)
        simp only [Nat.zero_mul, Addr.add, if_true] at this
        exact World.cell?_spot (this.trans (List.getElem?_eq_getElem (by omega)))
      obtain ⟨v0, hv0⟩ : ∃ v, w.cell? (a.add (i * 6)) = some v := by
        have := hcell 0 (by omega)
        rw [show (a.add (i * 6)).add 0 = a.add (i * 6) from by simp [Addr.add]] at this
        exact ⟨_, this.trans (List.getElem?_eq_getElem (by simp [rwC]))⟩
      obtain ⟨b, off, spot⟩ := a
      simp only at hspot
      subst hspot
      have hadd : ∀ o q, (⟨b, o, none⟩ : Addr).add q = ⟨b, o + q, none⟩ := fun o q => by unfold Addr.add; split <;> simp_all
      rw [hadd] at hv0
      refine ⟨r, hr, b, off, rfl, World.block_lt_of_cell? _ _ hv0, fun j u hj => ?_⟩
      have hjl : j < 6 := (List.getElem?_eq_some_iff.1 hj).1
      have := hcell j hjl
      rw [hadd, hadd] at this
      exact this.trans hj
    have hch : ∃ f : Nat → Rw, ∀ i, i < len0 → RwOk (f i) ∧ ∃ b off, a = ⟨b, off, none⟩ ∧ b < w.heap.size ∧ ∀ j u, (rwC (f i))[j]? = some u → w.cell? ⟨b, off + i * 6 + j, none⟩ = some u := by
      refine ⟨fun i => if hi : i < len0 then Classical.choose (hrow i hi) else ⟨0, 0, 0, 0, 0, 0⟩, fun i hi => ?_⟩
      simp only [hi, dif_pos]
      exact Classical.choose_spec (hrow i hi)
    obtain ⟨f, hf'⟩ := hch
    refine ⟨(List.range len0).map f, by simp, by omega, fun r hr => ?_, fun i r hr => ?_⟩
    · obtain ⟨i, hi, rfl⟩ := List.mem_map.1 hr
      exact (hf' i (List.mem_range.1 hi)).1
    · have hi : i < len0 := by have := (List.getElem?_eq_some_iff.1 hr).1; simpa using this
      have hr' : f i = r := by simpa [hi] using hr
      subst hr'
      obtain ⟨b, off, e1, h1, h2⟩ := (hf' i hi).2
      exact ⟨b, off, by rw [e1], h1, h2⟩

set_option maxRecDepth 100000 in
theorem open_lib {H : Type} {enc : TypeId × Value → H} {w : World} {r : Reach} {b0 : Nat} {v : Value} {d : DataW H} {p : List MemPlace} {ts : List TypeId} {ds : List (DataW H)} {j : Nat}
    (hv : Value.okWide Tryd.prog w r b0 57 v) (h : DataW.Trod enc Tryd.prog w 0 (fun _ => true) true 57 v d p) (hz : (DataW.weightsEach Tryd.prog ts ds).all (· ≤ reachBytes) = true) (htj : ts[j]? = some 57) (hdj : ds[j]? = some d) :
    ∃ (rs : List (List Int)) (ao : Option Addr) (ca : Nat) (Lp : Int) (l : List Rw) (bo : Option Addr) (cb : Nat), v = .agg #[.slice ao rs.length ca, .int .i64 Lp, .slice bo l.length cb] ∧ (∀ r ∈ rs, RecOk insKs r) ∧ Recs insKs w ao rs ∧ rs.length * 56 ≤ 140737488355328 ∧
      (-9223372036854775808 ≤ Lp ∧ Lp ≤ 9223372036854775807) ∧ (∀ r ∈ l, RwOk r) ∧ RowsR w bo l ∧ l.length * 48 ≤ 140737488355328 := by
  obtain ⟨cs, rfl, hsz⟩ := okWide_struct Tryd.underlying57 hv
  obtain ⟨fuel, hf⟩ := h
  obtain ⟨xs, n, _, hx, hl, hlen, hg⟩ := DataW.trod_struct Tryd.underlying57 hf
  obtain ⟨hd, hpp⟩ := Prod.mk.inj hx
  subst hd
  have hC : Tryd.prog.cellsOf 57 = 3 := by kernel_rfl
  rw [hC] at hsz
  obtain ⟨c0, c1, c2, rfl⟩ : ∃ c0 c1 c2, cs = #[c0, c1, c2] := by
    obtain ⟨l⟩ := cs
    match l, hsz with
    | [c0, c1, c2], _ => exact ⟨c0, c1, c2, rfl⟩
  obtain ⟨x0, x1, x2, rfl⟩ : ∃ x0 x1 x2, xs = [x0, x1, x2] := by
    match xs, hlen with
    | [x0, x1, x2], _ => exact ⟨x0, x1, x2, rfl⟩
  have h1 : Tryd.prog.cellsOf 3 = 1 := by kernel_rfl
  have h2 : Tryd.prog.cellsOf 22 = 1 := by kernel_rfl
  have h3 : Tryd.prog.cellsOf 55 = 1 := by kernel_rfl
  have g0 := hg 0 _ rfl
  have g1 := hg 1 _ rfl
  have g2 := hg 2 _ rfl
  simp only [Value.cells] at g0 g1 g2
  obtain ⟨Lp, e1, _, b1⟩ := DataW.trod_int Tryd.underlying3 g1
  obtain rfl : c1 = .int .i64 Lp := by simpa [h1] using e1
  obtain ⟨a, m, c, e0, ht, hw⟩ := slice_in Tryd.underlying22 g0
  obtain rfl : c0 = .slice a m c := by simpa [h2] using e0
  obtain ⟨a', m', c', e2, ht', hw'⟩ := slice_in Tryd.underlying55 g2
  obtain rfl : c2 = .slice a' m' c' := by simpa [h3] using e2
  obtain ⟨rs, rfl, hm, hfit, hrecs⟩ := open_recs insKs Tryd.underlying22 Tryd.underlying42 (by kernel_rfl) (by kernel_rfl) (by kernel_rfl) (by decide) ht
  obtain ⟨l, rfl, hm', hok, hrows⟩ := open_rows ht'
  refine ⟨rs, a, c, Lp, l, a', c', rfl, hfit, hrecs, ?_, bounds_i64 b1, hok, hrows, ?_⟩
  · rcases hw with hw | ⟨elems, spare, hw1, hw2⟩
    · rw [hw]; omega
    · have hb : Tryd.prog.bytesOf 42 = 56 := by kernel_rfl
      have hr := field_reach (i := 0) (elems := elems) (spare := spare) hz htj hdj Tryd.underlying57 rfl (by rw [← hw1]; rfl) Tryd.underlying22
      rw [hb] at hr
      simp only [reachBytes] at hr
      omega
  · rcases hw' with hw | ⟨elems, spare, hw1, hw2⟩
    · rw [hw]; omega
    · have hb : Tryd.prog.bytesOf 77 = 48 := by kernel_rfl
      have hr := field_reach (i := 2) (elems := elems) (spare := spare) hz htj hdj Tryd.underlying57 rfl (by rw [← hw1]; rfl) Tryd.underlying55
      rw [hb] at hr
      simp only [reachBytes] at hr
      omega

end Go.Proofs.YtkpliapmllabaaaDoor
