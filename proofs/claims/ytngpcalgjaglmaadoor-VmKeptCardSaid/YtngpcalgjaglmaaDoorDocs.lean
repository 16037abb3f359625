/- Rows made anew by append: the document's lists. -/
import Derived.Test.YtngpcalgjaglmaaDoorLib
import Derived.Deep.AppendLies
import Derived.Laws.AppendOwnNone
import Derived.Laws.OwnMore
namespace Go.Proofs.YtngpcalgjaglmaaDoor
open Go.RowKit

theorem block_of_add' (a : Addr) (n : Nat) : (a.add n).block = a.block := by unfold Addr.add; split <;> rfl
theorem add_of_add' (a : Addr) (i j : Nat) : (a.add i).add j = a.add (i + j) := by
  unfold Addr.add
  by_cases hi : i = 0 <;> by_cases hj : j = 0 <;> simp [hi, hj, Nat.add_assoc]
/-- The slice (A, m, c) reads as the cells cs. -/
def Src (w : World) (A : Option Addr) (m c : Nat) (cs : List Value) : Prop :=
  (A = none ∧ m = 0 ∧ c = 0 ∧ cs = []) ∨ ∃ ad, A = some ad ∧ ad.block < w.heap.size ∧ ∀ j u, cs[j]? = some u → w.cell? (ad.add j) = some u
theorem Src.keep {w w' : World} {A : Option Addr} {m c : Nat} {cs : List Value} {T : Nat → Prop} (h : Src w A m c cs) (f : Fr T w w') (hs : ∀ ad, A = some ad → ¬ T ad.block) : Src w' A m c cs := by
  rcases h with h | ⟨ad, rfl, h1, h2⟩
  · exact .inl h
  · refine .inr ⟨ad, rfl, Nat.lt_of_lt_of_le h1 f.size, fun j u hj => ?_⟩
    rw [World.cell?_of_block (w := w) (f.block _ (by rw [block_of_add']; exact h1) (by rw [block_of_add']; exact hs ad rfl))]
    exact h2 j u hj
theorem Src.of_own {w : World} {base size n c : Nat} {e : TypeId} {A : Option Addr} {cs : List Value} (h : w.ownsRow base e size (.slice A n c) n cs) : Src w A n c cs := by
  rcases h.2 with ⟨h1, rfl⟩ | ⟨g, cap, cur, hv, _, hh, r⟩
  · obtain ⟨rfl, _, rfl⟩ : A = none ∧ (0 = 0) ∧ c = 0 := by simpa using h1
    exact .inl ⟨rfl, rfl, rfl, List.eq_nil_of_length_eq_zero (by rw [h.1]; omega)⟩
  · obtain ⟨rfl, _⟩ : A = some ⟨g, 0, none⟩ ∧ c = cap := by simpa using hv
    exact .inr ⟨_, rfl, lt_of_block hh, h.cells (g := g) rfl⟩
theorem Src.take {w : World} {A : Option Addr} {n c k : Nat} {cs : List Value} (h : Src w A n c cs) (hk : k ≤ n) (x : Nat) : Src w A k c (cs.take x) := by
  rcases h with ⟨h1, h2, h3, h4⟩ | ⟨ad, h0, h1, h2⟩
  · exact .inl ⟨h1, by omega, h3, by rw [h4]; simp⟩
  · refine .inr ⟨ad, h0, h1, fun j u hj => h2 j u ?_⟩
    rw [List.getElem?_take] at hj
    split at hj
    · exact hj
    · cases hj
theorem Src.drop {w : World} {A : Option Addr} {n c k size : Nat} {cs : List Value} (h : Src w A n c cs) (hl : cs.length = n * size) (hk : k ≤ n) (hc : n ≤ c) :
    Src w (if c = k then A else A.map (·.add (k * size))) (n - k) (c - k) (cs.drop (k * size)) := by
  rcases h with ⟨h1, h2, h3, h4⟩ | ⟨ad, rfl, h1, h2⟩
  · exact .inl ⟨by rw [h1]; simp, by omega, by omega, by rw [h4]; simp⟩
  · by_cases e : c = k
    · rw [if_pos e]
      refine .inr ⟨ad, rfl, h1, fun j u hj => ?_⟩
      rw [List.drop_eq_nil_of_le (by rw [hl, show n = k by omega]; exact Nat.le_refl _)] at hj
      simp at hj
    · rw [if_neg e]
      refine .inr ⟨ad.add (k * size), rfl, by rw [block_of_add']; exact h1, fun j u hj => ?_⟩
      rw [add_of_add']
      exact h2 _ u (by rw [← hj, List.getElem?_drop])
theorem Src.cast {w : World} {A A' : Option Addr} {m c m' c' : Nat} {cs cs' : List Value} (h : Src w A m c cs) (e1 : A = A') (e2 : m = m') (e3 : c = c') (e4 : cs = cs') : Src w A' m' c' cs' := by subst e1 e2 e3 e4; exact h

/-- append onto a row of one's own, from whatever reads. -/
theorem wpList_append_src {P : Program} {w : World} {ops : Array Oper} {rest : List Oper} {o : Oper} {a : Act} {Q : Exit → Act → World → Prop} (hgd : o.guard = none) (s x : Operand) (t : TypeId)
    (ho : o.op = .call { callee := .builtin .append, args := #[s, x], argTypes := #[t, t] })
    (base : Nat) (e : TypeId) (i : TypeInfo) (z : Value) (size bytes : Nat) (ht : P.underlying t = some (.slice e)) (hi : P.info? e = some i) (hz : i.zero = some z)
    (hsize : i.size = size) (hby : i.bytes = bytes) (hzs : z.cells.size = size) (hsz : 0 < size)
    (v : Value) (n : Nat) (xs : List Value) (hs : a.eval s = v) (hown : w.ownsRow base e size v n xs)
    (A : Option Addr) (m c : Nat) (news : List Value) (hx : a.eval x = .slice A m c) (hl : news.length = m * size) (hr : Src w A m c news) (h1 : ∀ u ∈ news, u.oneCell' = true)
    (h63 : n + m ≤ maxLen) (hbytes : (n + m) * bytes ≤ 140737488355328) (hbase : base ≤ w.heap.size)
    (h : ∀ v' w', w'.ownsRow base e size v' (n + m) (xs ++ news) → w.grownBy w' v.ownBlock → wpList P ops Q rest (a.put o.dst v') w') : wpList P ops Q (o :: rest) a w := by
  rcases hr with ⟨rfl, rfl, rfl, rfl⟩ | ⟨ad, rfl, _, hc⟩
  · exact wpList_append_own_none hgd s x t ho base e i size ht hi v n xs hs hown hx (h v w (by simpa using hown) (World.grownBy.refl w _))
  · exact wpList_append_own w hgd s x t ho base e i z size bytes ht hi hz hsize hby hzs hsz v n xs hs hown ad m c news hx hl hc h1 h63 hbytes hbase (fun v' w' a1 a2 _ => h v' w' a1 a2)

end Go.Proofs.YtngpcalgjaglmaaDoor
