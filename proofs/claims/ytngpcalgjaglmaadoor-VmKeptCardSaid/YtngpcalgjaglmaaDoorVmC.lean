/- An instruction that goes somewhere. -/
import Derived.Test.YtngpcalgjaglmaaDoorVmA
import Derived.ArgAppend
import Derived.Deep.Onto
import Derived.Test.YtngpcalgjaglmaaDoorDocs
namespace Go
/-- append onto a slice that is full: a new row. -/
theorem wp_append_grows {P : Program} {o : Oper} {a : Act} {w : World} {K : Act → World → Prop} {Q : Exit → Act → World → Prop}
    (s x : Operand) (t : TypeId) (hop : o.op = Op.call { callee := Callee.builtin Builtin.append, args := #[s, x], argTypes := #[t, t] })
    (e : TypeId) (i : TypeInfo) (z : Value) (size bytes : Nat) (h1 : P.underlying t = some (.slice e)) (h2 : P.info? e = some i) (h3 : i.zero = some z) (h4 : i.size = size) (h5 : i.bytes = bytes) (h6 : z.cells.size = size) (h7 : 0 < size)
    (ao : Option Addr) (n cap : Nat) (olds : List Value) (hs : a.eval s = .slice ao n cap) (hnone : ao = none → n = 0 ∧ cap = 0) (hlo : olds.length = n * size) (holds : ∀ b, ao = some b → ∀ j u, olds[j]? = some u → w.cell? (b.add j) = some u)
    (ad : Addr) (m c : Nat) (news : List Value) (hx : a.eval x = .slice (some ad) m c) (hn : news.length = m * size) (hc : ∀ j u, news[j]? = some u → w.cell? (ad.add j) = some u) (h1c : ∀ u ∈ news, u.oneCell' = true)
    (hfull : cap < n + m) (b1 : n + m ≤ maxLen) (b2 : (n + m) * bytes ≤ 140737488355328)
    (hK : ∀ v' w', w'.ownsRow w.heap.size e size v' (n + m) (olds ++ news) → w.grownBy w' none → K (a.put o.dst v') w') : o.wp P a w K Q := by
  cases ao with
  | some b =>
    obtain ⟨v', w', hrun, r1, r2⟩ := run_append_arg_grows (P := P) w t o.type e i z size bytes h1 h2 h3 h4 h5 h6 h7 b n cap olds hlo (holds b rfl) ad m c news hn hc hfull b1 b2
    unfold Oper.wp
    simp [execOp, hop, resolve, invoke, builtin, hs, hx, hrun, Result.andThen]
    exact hK v' w' r1 r2
  | none =>
    obtain ⟨rfl, rfl⟩ := hnone rfl
    obtain rfl : olds = [] := List.eq_nil_of_length_eq_zero (by simpa using hlo)
    obtain ⟨v', w', hrun, r1, r2, _⟩ := run_append_own (P := P) w w.heap.size t o.type e i z size bytes h1 h2 h3 h4 h5 h6 h7 (.slice none 0 0) 0 [] (World.ownsRow_nil w _ e size) ad m c news hn hc h1c b1 b2 (Nat.le_refl _)
    unfold Oper.wp
    simp [execOp, hop, resolve, invoke, builtin, hs, hx, hrun, Result.andThen]
    exact hK v' w' r1 r2
end Go
namespace Go.Proofs.YtngpcalgjaglmaaDoor
open Go.RowKit

/-- A frame, plainly. -/
structure Fm where
  pc : Int
  rs : List Nat
  bk : List Int
def iV (z : Int) : Value := .int .i64 z
theorem block_of_add2 (a : Addr) (n : Nat) : (a.add n).block = a.block := by unfold Addr.add; split <;> rfl
structure FmAt (w : World) (fb o : Nat) (v : Value) (F : Fm) : Prop where
  fr : FrAt w fb o F.pc F.rs v
  own : w.ownsRow 0 3 1 v F.bk.length (F.bk.map iV)
  ap : ∀ k, v.ownBlock = some k → k ≠ fb
  few : F.bk.length ≤ 8
/-- What turns is the frame at most. -/
structure Fr34 (fb o : Nat) (w w' : World) : Prop where
  fr : Fr (· = fb) w w'
  out : ∀ i, i < o ∨ o + 34 ≤ i → w'.cell? ⟨fb, i, none⟩ = w.cell? ⟨fb, i, none⟩
theorem Fr34.refl (fb o : Nat) (w : World) : Fr34 fb o w w := ⟨Fr.refl _ _, fun _ _ => rfl⟩
theorem Fr34.trans {fb o : Nat} {a b c : World} (h : Fr34 fb o a b) (k : Fr34 fb o b c) : Fr34 fb o a c := ⟨h.fr.trans k.fr, fun i hi => (k.out i hi).trans (h.out i hi)⟩
theorem Fr34.new {fb o : Nat} {w w' : World} (hl : fb < w.heap.size) (f : New w w') : Fr34 fb o w w' := ⟨f.mono (fun _ _ h => h.elim), fun i _ => f.cell hl id i⟩
theorem Fr34.set {fb o i : Nat} {w : World} (v : Value) (h1 : o ≤ i) (h2 : i < o + 34) : Fr34 fb o w (w.setCell ⟨fb, i, none⟩ v) :=
  ⟨(Fr.refl (· = fb) w).setCell (fun _ => rfl) v, fun j hj => cell_set_ne _ (.inr (by omega))⟩
theorem own_keptV {w w' : World} {S : Nat → Prop} {base : Nat} {e : TypeId} {size n : Nat} {v : Value} {xs : List Value} (h : w.ownsRow base e size v n xs) (f : Fr S w w') (hs : ∀ k, v.ownBlock = some k → ¬ S k) : w'.ownsRow base e size v n xs := by
  refine ⟨h.1, ?_⟩
  rcases h.2 with h2 | ⟨g, cap, cur, hv, hg, hh, r⟩
  · exact .inl h2
  · exact .inr ⟨g, cap, cur, hv, hg, by rw [f.block g (lt_of_block hh) (hs g (by rw [hv]; rfl))]; exact hh, r⟩
theorem FmAt.new {w w' : World} {fb o : Nat} {v : Value} {F : Fm} (h : FmAt w fb o v F) (f : New w w') : FmAt w' fb o v F := ⟨h.fr.new f, own_keptV h.own f (fun _ _ => id), h.ap, h.few⟩
theorem FmAt.keep {w w' : World} {fb o : Nat} {v : Value} {F : Fm} {S : Nat → Prop} (h : FmAt w fb o v F) (f : Fr S w w') (h1 : ¬ S fb) (h2 : ∀ k, v.ownBlock = some k → ¬ S k) : FmAt w' fb o v F := ⟨h.fr.keep f h1, own_keptV h.own f h2, h.ap, h.few⟩
/-- A shorter piece of a row. -/
theorem own_take1 {w : World} {base : Nat} {e : TypeId} {A : Option Addr} {n cap k : Nat} {xs : List Value} (h : w.ownsRow base e 1 (.slice A n cap) n xs) (hk : k ≤ n) : w.ownsRow base e 1 (.slice A k cap) k (xs.take k) := by
  have hl := h.1
  refine ⟨by rw [List.length_take]; omega, ?_⟩
  rcases h.2 with ⟨h2, rfl⟩ | ⟨g, cap', cur, hv, hg, hh, h3, h4, h5, h6⟩
  · obtain ⟨rfl, _, rfl⟩ : A = none ∧ (0 = 0) ∧ cap = 0 := by simpa using h2
    obtain rfl : k = 0 := by omega
    exact .inl ⟨rfl, rfl⟩
  · obtain ⟨rfl, rfl⟩ : A = some ⟨g, 0, none⟩ ∧ cap = cap' := by simpa using hv
    refine .inr ⟨g, cap, cur, rfl, hg, hh, by omega, h4, h5, ?_⟩
    rw [← h6, List.take_take]; congr 1; omega
theorem own_row1V {w : World} {base n : Nat} {e : TypeId} {v : Value} {xs : List Value} (h : w.ownsRow base e 1 v n xs) (hn : 0 < n) : ∃ g c, v = .slice (some ⟨g, 0, none⟩) n c ∧ n ≤ c ∧ g < w.heap.size ∧ ∀ (j : Nat) u, xs[j]? = some u → w.cell? ⟨g, j, none⟩ = some u := by
  rcases h.2 with ⟨_, rfl⟩ | ⟨g, cap, cur, rfl, h2, h3, h4, h5, h6, h7⟩
  · omega
  · refine ⟨g, cap, rfl, h4, lt_of_block h3, fun j u hj => ?_⟩
    have hl := h.1
    have hjl := (List.getElem?_eq_some_iff.1 hj).1
    rw [cell_of_block h3, ← Array.getElem?_toList]
    rw [← h7, List.getElem?_take_of_lt (by omega)] at hj
    exact hj

/-- Where an instruction goes. -/
def jumpN (o A : Int) (V : Nat) (F : Fm) : Int × Fm :=
  if o = 16 then (if F.bk = [] then (2, F) else (0, ⟨F.bk.getLastD 0, F.rs, F.bk.dropLast⟩))
  else if o = 15 then (if 8 ≤ F.bk.length then (3, F) else (0, ⟨V, F.rs, F.bk ++ [F.pc + 1]⟩))
  else if o = 12 then (0, ⟨V, F.rs, F.bk⟩)
  else (0, ⟨if (F.rs.getD A.toNat 0 = 0 ↔ o = 13) then (V : Int) else F.pc + 1, F.rs, F.bk⟩)
def Jumped (w : World) (fb o : Nat) (v : Value) (R : Int × Fm) (e : Ending) (w' : World) : Prop :=
  ∃ v', e = .returned (.int .i64 R.1) ∧ FmAt w' fb o v' R.2 ∧ Fr34 fb o w w' ∧ ∀ k, v'.ownBlock = some k → v.ownBlock = some k ∨ w.heap.size ≤ k
theorem FmAt.setPc {w : World} {fb o : Nat} {v : Value} {F : Fm} (h : FmAt w fb o v F) (p : Int) : FmAt (w.setCell ⟨fb, o, none⟩ (.int .i64 p)) fb o v ⟨p, F.rs, F.bk⟩ :=
  ⟨h.fr.setPc p, own_keptV h.own (Fr34.set (fb := fb) (o := o) _ (Nat.le_refl _) (by omega)).fr (fun k hk e => h.ap k hk e), h.ap, h.few⟩
theorem FmAt.setReg {w : World} {fb o : Nat} {v : Value} {F : Fm} (h : FmAt w fb o v F) {j y : Nat} (hj : j < 32) (hy : y < 18446744073709551616) : FmAt (w.setCell ⟨fb, o + 1 + j, none⟩ (.int .u64 (y : Nat))) fb o v ⟨F.pc, F.rs.set j y, F.bk⟩ :=
  ⟨h.fr.setReg hj hy, own_keptV h.own (Fr34.set (fb := fb) (o := o) _ (by omega) (by omega)).fr (fun k hk e => h.ap k hk e), h.ap, h.few⟩
theorem FmAt.setBack {w : World} {fb o : Nat} {v v' : Value} {F : Fm} {bk : List Int} (h : FmAt w fb o v F) (hown : w.ownsRow 0 3 1 v' bk.length (bk.map iV)) (hap : ∀ k, v'.ownBlock = some k → k ≠ fb) (hl : bk.length ≤ 8) : FmAt (w.setCell ⟨fb, o + 33, none⟩ v') fb o v' ⟨F.pc, F.rs, bk⟩ :=
  ⟨h.fr.setBack v', own_keptV hown (Fr34.set (fb := fb) (o := o) _ (by omega) (by omega)).fr (fun k hk e => hap k hk e), hap, hl⟩
theorem intInfoV : (Tryd.prog.info? 3).map (fun i => (i.zero, i.size, i.bytes)) = some (some (.int .i64 0), 1, 8) := by kernel_rfl

set_option maxRecDepth 100000 in
set_option maxHeartbeats 2000000 in
theorem jump_ret (fb o : Nat) (v : Value) (F : Fm) (A B C : Int) (V : Nat) (M W : Int) (w : World) (h : FmAt w fb o v F) :
    Calls Tryd.prog 27 #[.pointer (some ⟨fb, o, none⟩), insV 16 A B C V M W] w fun e w' => Jumped w fb o v (jumpN 16 A V F) e w' := by
  obtain ⟨ao, cap, rfl, _⟩ := owned_form h.own
  have hfew := h.few
  have hl := h.fr.lt
  by_cases h0 : F.bk = []
  · have HJ := Lib.hid (show jumpN 16 A V F = (2, F) by unfold jumpN; rw [if_pos rfl, if_pos h0])
    have c33 := h.fr.back
    rw [h0] at c33
    have H := Lib.hid h
    clear h h0 hfew
    go_enter Tryd.func27, Tryd.ntmps27
    go_wp2
    go_ret
    rw [HJ.out]
    exact ⟨_, rfl, H.out.new ((Fr.refl _ _).alloc _), Fr34.new hl ((Fr.refl _ _).alloc _), fun k hk => .inl hk⟩
  · obtain ⟨r, p, hr⟩ : ∃ r p, F.bk = r ++ [p] := ⟨F.bk.dropLast, F.bk.getLast h0, (List.dropLast_concat_getLast h0).symm⟩
    have HJ := Lib.hid (show jumpN 16 A V F = (0, ⟨p, F.rs, r⟩) by unfold jumpN; rw [if_pos rfl, if_neg h0, hr]; simp [List.getLastD_eq_getLast?])
    have hlen : F.bk.length = r.length + 1 := by rw [hr]; simp
    have hown := h.own
    have c33 := h.fr.back
    rw [hlen] at hown c33 hfew
    obtain ⟨g, c, hgc, hcap, hg, hcell⟩ := own_row1V hown (by omega)
    obtain ⟨rfl, rfl⟩ : ao = some ⟨g, 0, none⟩ ∧ cap = c := by
      have := hgc; simp at this; exact this
    have hgf := h.ap g rfl
    have x0 := hcell r.length (iV p) (by rw [hr]; simp)
    unfold iV at x0
    obtain ⟨n, hn⟩ : ∃ n, r.length = n := ⟨_, rfl⟩
    rw [hn] at hown c33 hfew hcap x0
    have hown2 := own_take1 hown (k := n) (by omega)
    rw [show (F.bk.map iV).take n = r.map iV by rw [hr, List.map_append, ← hn]; simp] at hown2
    have H := Lib.hid h
    have HO := Lib.hid hown2
    have HN := Lib.hid hn
    have c0 := h.fr.pc
    have z0 := h.fr.free
    have t0 : ((n : Int) + 1 == 0) = false := by rw [beq_eq_false_iff_ne]; omega
    have t1 : IntKind.i64.wrap ((n : Int) + 1 - 1) = (n : Int) := by rw [show (n : Int) + 1 - 1 = n by omega]; exact IntWalk.i64_in _ (by omega)
    clear h hgc hown hown2 hcell hn hlen hr h0
    have e1 : ((n + 1 : Nat) : Int) = (n : Int) + 1 := by omega
    go_enter Tryd.func27, Tryd.ntmps27
    go_wp2
    go_ret
    rw [HJ.out]
    have hs1 := H.out.setPc p
    have hap2 : ∀ k, (Value.slice (some ⟨g, 0, none⟩) n cap).ownBlock = some k → k ≠ fb := fun k hk => by
      obtain rfl : g = k := by simpa [Value.ownBlock] using hk
      exact hgf
    have hs2 := hs1.setBack (bk := r) (v' := .slice (some ⟨g, 0, none⟩) n cap) (by rw [HN.out]; exact own_keptV HO.out (Fr34.set (fb := fb) (o := o) _ (Nat.le_refl _) (by omega)).fr (fun k hk e => hap2 k hk e)) hap2 (by rw [HN.out]; omega)
    have f1 := (Fr34.set (fb := fb) (o := o) (w := w) (.int .i64 p) (Nat.le_refl _) (by omega)).trans (Fr34.set (fb := fb) (o := o) (.slice (some ⟨g, 0, none⟩) n cap) (by omega : o ≤ o + 33) (by omega))
    exact ⟨_, rfl, hs2.new ((Fr.refl _ _).alloc _), f1.trans (Fr34.new (by simpa using hl) ((Fr.refl _ _).alloc _)), fun k hk => .inl (by simpa [Value.ownBlock] using hk)⟩

set_option maxRecDepth 100000 in
set_option maxHeartbeats 2000000 in
theorem jump_jmp (fb o : Nat) (v : Value) (F : Fm) (A B C : Int) (V : Nat) (M W : Int) (w : World) (h : FmAt w fb o v F) (hV : V ≤ 9223372036854775807) :
    Calls Tryd.prog 27 #[.pointer (some ⟨fb, o, none⟩), insV 12 A B C V M W] w fun e w' => Jumped w fb o v (jumpN 12 A V F) e w' := by
  obtain ⟨ao, cap, rfl, _⟩ := owned_form h.own
  have hfew := h.few
  have hl := h.fr.lt
  have HJ := Lib.hid (show jumpN 12 A V F = (0, ⟨V, F.rs, F.bk⟩) by unfold jumpN; rw [if_neg (by decide), if_neg (by decide), if_pos rfl])
  have c33 := h.fr.back
  have c0 := h.fr.pc
  have z0 := h.fr.free
  have t1 : IntKind.i64.wrap (V : Int) = (V : Int) := IntWalk.i64_in _ (by omega)
  have H := Lib.hid h
  clear h
  go_enter Tryd.func27, Tryd.ntmps27
  go_wp2
  go_ret
  rw [HJ.out]
  exact ⟨_, rfl, (H.out.setPc V).new ((Fr.refl _ _).alloc _), (Fr34.set (fb := fb) (o := o) (w := w) (.int .i64 V) (Nat.le_refl _) (by omega)).trans (Fr34.new (by simpa using hl) ((Fr.refl _ _).alloc _)), fun k hk => .inl hk⟩

set_option maxRecDepth 100000 in
set_option maxHeartbeats 4000000 in
theorem jump_jsr (fb o : Nat) (v : Value) (F : Fm) (A B C : Int) (V : Nat) (M W : Int) (w : World) (h : FmAt w fb o v F) (hV : V ≤ 9223372036854775807) (hpc : -9223372036854775808 ≤ F.pc ∧ F.pc < 9223372036854775807) :
    Calls Tryd.prog 27 #[.pointer (some ⟨fb, o, none⟩), insV 15 A B C V M W] w fun e w' => Jumped w fb o v (jumpN 15 A V F) e w' := by
  obtain ⟨ao, cap, rfl, _⟩ := owned_form h.own
  have hfew := h.few
  have hl := h.fr.lt
  have c33 := h.fr.back
  have c0 := h.fr.pc
  have z0 := h.fr.free
  have hown := h.own
  obtain ⟨n, hn⟩ : ∃ n, F.bk.length = n := ⟨_, rfl⟩
  rw [hn] at c33 hfew hown
  have H := Lib.hid h
  have HN := Lib.hid hn
  by_cases h8 : 8 ≤ n
  · have HJ := Lib.hid (show jumpN 15 A V F = (3, F) by unfold jumpN; rw [if_neg (by decide), if_pos rfl, if_pos (by rw [HN.out]; exact h8)])
    clear h hn hown
    go_enter Tryd.func27, Tryd.ntmps27
    go_wp2
    go_ret
    rw [HJ.out]
    exact ⟨_, rfl, H.out.new ((Fr.refl _ _).alloc _), Fr34.new hl ((Fr.refl _ _).alloc _), fun k hk => .inl hk⟩
  · have HJ := Lib.hid (show jumpN 15 A V F = (0, ⟨V, F.rs, F.bk ++ [F.pc + 1]⟩) by unfold jumpN; rw [if_neg (by decide), if_pos rfl, if_neg (by rw [HN.out]; exact h8)])
    have t1 : IntKind.i64.wrap (V : Int) = (V : Int) := IntWalk.i64_in _ (by omega)
    obtain ⟨p, hp⟩ : ∃ p, F.pc = p := ⟨_, rfl⟩
    rw [hp] at hpc c0 HJ
    have t2 : IntKind.i64.wrap (p + 1) = p + 1 := IntWalk.i64_in _ (by omega)
    obtain ⟨i0, hi, hz0, hz1, hz2⟩ := info_parts intInfoV
    have hcap : n ≤ cap := by
      rcases hown.2 with ⟨h1, h2⟩ | ⟨g, cap', cur, hv, _, _, hc, _⟩
      · omega
      · obtain ⟨_, rfl⟩ : ao = some ⟨g, 0, none⟩ ∧ cap = cap' := by simpa using hv
        exact hc
    have hlen := hown.1
    have hnone : ao = none → n = 0 ∧ cap = 0 := by
      rintro rfl
      rcases hown.2 with ⟨h1, h2⟩ | ⟨g, cap', cur, hv, _⟩
      · exact ⟨h2, (show n = 0 ∧ cap = 0 by simpa using h1).2⟩
      · simp at hv
    have hcell : ∀ b, ao = some b → ∀ j u, (F.bk.map iV)[j]? = some u → w.cell? (b.add j) = some u := by
      rintro b rfl j u hj
      rcases hown.2 with ⟨h1, h2⟩ | ⟨g, cap', cur, hv, _⟩
      · simp at h1
      · obtain ⟨rfl, _⟩ : b = ⟨g, 0, none⟩ ∧ cap = cap' := by simpa using hv
        exact hown.cells (g := g) rfl j u hj
    have hlt : ∀ b, ao = some b → b.block < w.heap.size := by
      rintro b rfl
      rcases hown.2 with ⟨h1, h2⟩ | ⟨g, cap', cur, hv, _, hh, _⟩
      · simp at h1
      · obtain ⟨rfl, _⟩ : b = ⟨g, 0, none⟩ ∧ cap = cap' := by simpa using hv
        exact lt_of_block hh
    have HNONE := Lib.hid hnone
    have HCELL := Lib.hid hcell
    have HLT := Lib.hid hlt
    have HLEN := Lib.hid hlen
    have q1 : (0 : Int) ≤ (n : Int) := by omega
    have q2 : (n : Int) ≤ (cap : Int) := by omega
    clear h hn hown hnone hcell hlt hlen hp
    go_enter Tryd.func27, Tryd.ntmps27
    go_wp2_with fail
    obtain ⟨W0, hW0⟩ : ∃ W0, (w.alloc (.cells #[.int .i64 15, .int .i64 A, .int .i64 B, .int .i64 C, .int .u64 V, .int .i64 M, .int .i64 W] 52)).drew = W0 := ⟨_, rfl⟩
    have hn0 : New w W0 := by rw [← hW0]; exact ((Fr.refl _ _).alloc _).drew
    have hb0 : W0.heap[w.heap.size]? = some (.cells #[.int .i64 15, .int .i64 A, .int .i64 B, .int .i64 C, .int .u64 V, .int .i64 M, .int .i64 W] 52 (0, 0)) := by rw [← hW0]; exact block_alloc_new _ _
    obtain ⟨xb, hxb⟩ : ∃ xb, w.heap.size = xb := ⟨_, rfl⟩
    rw [hxb] at hb0 ⊢
    have hxl := lt_of_block hb0
    refine heldStart (fun wz => wz.cell? ⟨fb, o, none⟩ = some (.int .i64 p)) (by kernel_rfl) ?_
    rw [hW0]
    have s0 : W0.cell? ⟨fb, o, none⟩ = some (.int .i64 p) := (hn0.cell hl id _).trans c0
    have y0 : W0.cell? ⟨fb, o + 33, none⟩ = some (.slice ao n cap) := (hn0.cell hl id _).trans c33
    have HN0 := Lib.hid hn0
    have HB0 := Lib.hid hb0
    have n1 : New W0 (W0.alloc (.cells #[.int .i64 (p + 1)] 3)) := (Fr.refl _ _).alloc _
    have s1 : (W0.alloc (.cells #[.int .i64 (p + 1)] 3)).cell? ⟨fb, o, none⟩ = some (.int .i64 p) := (n1.cell (lt_of_cell s0) id _).trans s0
    have y1 : (W0.alloc (.cells #[.int .i64 (p + 1)] 3)).cell? ⟨fb, o + 33, none⟩ = some (.slice ao n cap) := (n1.cell (lt_of_cell s0) id _).trans y0
    have HN1 := Lib.hid (HN0.out.trans n1)
    have HA1 := Lib.hid (show Arr (W0.alloc (.cells #[.int .i64 (p + 1)] 3)) W0.heap.size [iV (p + 1)] from Arr.new _ _ _)
    have HB1 := Lib.hid ((n1.block xb hxl id).trans HB0.out)
    clear hW0 hn0 hb0 c33 c0 n1
    refine wpAnyH_take (i := 0) (v := ?_) rfl (by kernel_rfl) (by kernel_rfl) (by kernel_rfl) (fun _ _ _ h => h) (Or.inl ⟨by rfl, ?_⟩) s0 ?_
    rotate_left
    · intro w hSw; first | (obtain ⟨s1, s2, s3, s4, s5, s6, s7, s8⟩ := hSw; go_simp; rfl) | (obtain ⟨s1, s2, s3, s4, s5, s6, s7⟩ := hSw; go_simp; rfl) | (obtain ⟨s1, s2, s3⟩ := hSw; go_simp; rfl) | (obtain ⟨s1, s2⟩ := hSw; go_simp; rfl) | (have s1 := hSw; go_simp; rfl)
    go_simp
    refine wpAnyH_take (i := 1) (v := ?_) rfl (by kernel_rfl) (by kernel_rfl) (by kernel_rfl) (fun _ _ _ h => h) (Or.inl ⟨by rfl, ?_⟩) s0 ?_
    rotate_left
    · intro w hSw; first | (obtain ⟨s1, s2, s3, s4, s5, s6, s7, s8⟩ := hSw; go_simp; rfl) | (obtain ⟨s1, s2, s3, s4, s5, s6, s7⟩ := hSw; go_simp; rfl) | (obtain ⟨s1, s2, s3⟩ := hSw; go_simp; rfl) | (obtain ⟨s1, s2⟩ := hSw; go_simp; rfl) | (have s1 := hSw; go_simp; rfl)
    go_simp
    refine wpAnyH_take (i := 2) (v := ?_) rfl (by kernel_rfl) (by kernel_rfl) (by kernel_rfl) (fun _ _ _ h => h) (Or.inl ⟨by rfl, ?_⟩) s0 ?_
    rotate_left
    · intro w hSw; first | (obtain ⟨s1, s2, s3, s4, s5, s6, s7, s8⟩ := hSw; go_simp; rfl) | (obtain ⟨s1, s2, s3, s4, s5, s6, s7⟩ := hSw; go_simp; rfl) | (obtain ⟨s1, s2, s3⟩ := hSw; go_simp; rfl) | (obtain ⟨s1, s2⟩ := hSw; go_simp; rfl) | (have s1 := hSw; go_simp; rfl)
    go_simp
    refine wpAnyH_take (i := 3) (v := ?_) rfl (by kernel_rfl) (by kernel_rfl) (by kernel_rfl) (fun _ _ _ h => h) (Or.inl ⟨by rfl, ?_⟩) s0 ?_
    rotate_left
    · intro w hSw; first | (obtain ⟨s1, s2, s3, s4, s5, s6, s7, s8⟩ := hSw; go_simp; rfl) | (obtain ⟨s1, s2, s3, s4, s5, s6, s7⟩ := hSw; go_simp; rfl) | (obtain ⟨s1, s2, s3⟩ := hSw; go_simp; rfl) | (obtain ⟨s1, s2⟩ := hSw; go_simp; rfl) | (have s1 := hSw; go_simp; rfl)
    go_simp
    refine wpAnyH_take (i := 5) (v := ?_) rfl (by kernel_rfl) (by kernel_rfl) (by kernel_rfl) (fun _ _ _ h => h) (Or.inl ⟨by rfl, ?_⟩) s0 ?_
    rotate_left
    · intro w hSw; first | (obtain ⟨s1, s2, s3, s4, s5, s6, s7, s8⟩ := hSw; go_simp; rfl) | (obtain ⟨s1, s2, s3, s4, s5, s6, s7⟩ := hSw; go_simp; rfl) | (obtain ⟨s1, s2, s3⟩ := hSw; go_simp; rfl) | (obtain ⟨s1, s2⟩ := hSw; go_simp; rfl) | (have s1 := hSw; go_simp; rfl)
    go_simp
    refine wpAnyH_take (i := 6) (v := ?_) rfl (by kernel_rfl) (by kernel_rfl) (by kernel_rfl) (fun _ _ _ h => h) (Or.inl ⟨by rfl, ?_⟩) s0 ?_
    rotate_left
    · intro w hSw; first | (obtain ⟨s1, s2, s3, s4, s5, s6, s7, s8⟩ := hSw; go_simp; rfl) | (obtain ⟨s1, s2, s3, s4, s5, s6, s7⟩ := hSw; go_simp; rfl) | (obtain ⟨s1, s2, s3⟩ := hSw; go_simp; rfl) | (obtain ⟨s1, s2⟩ := hSw; go_simp; rfl) | (have s1 := hSw; go_simp; rfl)
    go_simp
    refine wpAnyH_take (i := 8) (v := ?_) rfl (by kernel_rfl) (by kernel_rfl) (by kernel_rfl) (fun _ _ _ h => h) (Or.inl ⟨by rfl, ?_⟩) s0 ?_
    rotate_left
    · intro w hSw; first | (obtain ⟨s1, s2, s3, s4, s5, s6, s7, s8⟩ := hSw; go_simp; rfl) | (obtain ⟨s1, s2, s3, s4, s5, s6, s7⟩ := hSw; go_simp; rfl) | (obtain ⟨s1, s2, s3⟩ := hSw; go_simp; rfl) | (obtain ⟨s1, s2⟩ := hSw; go_simp; rfl) | (have s1 := hSw; go_simp; rfl)
    go_simp
    refine wpAnyH_take (i := 9) (v := ?_) rfl (by kernel_rfl) (by kernel_rfl) (by kernel_rfl) (fun _ _ _ h => h) (Or.inl ⟨by rfl, ?_⟩) s0 ?_
    rotate_left
    · intro w hSw; first | (obtain ⟨s1, s2, s3, s4, s5, s6, s7, s8⟩ := hSw; go_simp; rfl) | (obtain ⟨s1, s2, s3, s4, s5, s6, s7⟩ := hSw; go_simp; rfl) | (obtain ⟨s1, s2, s3⟩ := hSw; go_simp; rfl) | (obtain ⟨s1, s2⟩ := hSw; go_simp; rfl) | (have s1 := hSw; go_simp; rfl)
    go_simp
    refine wpAnyH_take (i := 10) (v := ?_) rfl (by kernel_rfl) (by kernel_rfl) (by kernel_rfl) (fun _ _ _ h => h) (Or.inl ⟨by rfl, ?_⟩) s0 ?_
    rotate_left
    · intro w hSw; first | (obtain ⟨s1, s2, s3, s4, s5, s6, s7, s8⟩ := hSw; go_simp; rfl) | (obtain ⟨s1, s2, s3, s4, s5, s6, s7⟩ := hSw; go_simp; rfl) | (obtain ⟨s1, s2, s3⟩ := hSw; go_simp; rfl) | (obtain ⟨s1, s2⟩ := hSw; go_simp; rfl) | (have s1 := hSw; go_simp; rfl)
    go_simp
    refine wpAnyH_take (i := 11) (v := ?_) rfl (by kernel_rfl) (by kernel_rfl) (by kernel_rfl) (fun _ _ _ h => h) (Or.inl ⟨by rfl, ?_⟩) s0 ?_
    rotate_left
    · intro w hSw; first | (obtain ⟨s1, s2, s3, s4, s5, s6, s7, s8⟩ := hSw; go_simp; rfl) | (obtain ⟨s1, s2, s3, s4, s5, s6, s7⟩ := hSw; go_simp; rfl) | (obtain ⟨s1, s2, s3⟩ := hSw; go_simp; rfl) | (obtain ⟨s1, s2⟩ := hSw; go_simp; rfl) | (have s1 := hSw; go_simp; rfl)
    go_simp
    refine wpAnyH_take (i := 12) (v := ?_) rfl (by kernel_rfl) (by kernel_rfl) (by kernel_rfl) (fun _ _ _ h => h) (Or.inl ⟨by rfl, ?_⟩) s0 ?_
    rotate_left
    · intro w hSw; first | (obtain ⟨s1, s2, s3, s4, s5, s6, s7, s8⟩ := hSw; go_simp; rfl) | (obtain ⟨s1, s2, s3, s4, s5, s6, s7⟩ := hSw; go_simp; rfl) | (obtain ⟨s1, s2, s3⟩ := hSw; go_simp; rfl) | (obtain ⟨s1, s2⟩ := hSw; go_simp; rfl) | (have s1 := hSw; go_simp; rfl)
    go_simp
    refine heldEither (i := 4) (j := 13) (by kernel_rfl) rfl rfl (by rfl) (by rfl) (fun K hK => ?_) (fun K hK => ?_)
    · clear y1
      go_simp
      refine hK.out _ _ s0 ?_
      clear hK K
      refine wpAnyH_take (i := 7) (v := ?_) rfl (by kernel_rfl) (by kernel_rfl) (by kernel_rfl) (fun _ _ _ h => h) (Or.inl ⟨by rfl, ?_⟩) s0 ?_
      rotate_left
      · intro w hSw; first | (obtain ⟨s1, s2, s3, s4, s5, s6, s7, s8⟩ := hSw; go_simp; rfl) | (obtain ⟨s1, s2, s3, s4, s5, s6, s7⟩ := hSw; go_simp; rfl) | (obtain ⟨s1, s2, s3⟩ := hSw; go_simp; rfl) | (obtain ⟨s1, s2⟩ := hSw; go_simp; rfl) | (have s1 := hSw; go_simp; rfl)
      go_simp
      refine heldOne (i := 13) (by kernel_rfl) rfl (by rfl) (fun K hK => ?_)
      go_simp
      refine hK.out _ _ s1 ?_
      clear hK K s0 y0
      generalize hW1 : (W0.alloc (.cells #[.int .i64 (p + 1)] 3)) = W1 at s1 HN1 HA1 HB1 ⊢
      obtain ⟨sb, hsb⟩ : ∃ sb, W0.heap.size = sb := ⟨_, rfl⟩
      rw [hsb] at HA1 ⊢
      clear hW1
      refine heldOne (i := 14) (by kernel_rfl) rfl (by rfl) (fun K hK => ?_)
      refine wp_append_grows (.tmp 51) (.tmp 57) 24 rfl 3 i0 _ 1 8 Tryd.underlying24 hi hz0 hz1 hz2 rfl (by decide) ao n n (F.bk.map iV) rfl (fun e => ⟨(HNONE.out e).1, (HNONE.out e).1⟩) HLEN.out (fun b e j u hj => ?_) ⟨sb, 0, none⟩ 1 1 [iV (p + 1)] rfl rfl (fun j u hj => HA1.out.add j u hj) (by simp [iV, Value.oneCell']) (by omega) (by unfold maxLen; omega) (by omega) ?_
      · rw [World.cell?_of_block (w := w) (HN1.out.block _ (by rw [block_of_add2]; exact HLT.out b e) id)]
        exact HCELL.out b e j u hj
      intro v2 w2 hown2 hgrow2
      obtain ⟨ao2, cap2, rfl, _⟩ := owned_form hown2
      have f2 : New W1 w2 := (Fr.refl _ _).grown hgrow2 (fun k h => by cases h)
      have s2 : w2.cell? ⟨fb, o, none⟩ = some (.int .i64 p) := (f2.cell (lt_of_cell s1) id _).trans s1
      have hb2 := (f2.block xb (lt_of_block HB1.out) id).trans HB1.out
      have hsz := HN1.out.size
      have HN2 := Lib.hid (HN1.out.trans f2)
      have HO2 := Lib.hid hown2
      have HVK := Lib.hid (show ∀ k, (Value.slice ao2 (n + 1) cap2).ownBlock = some k → w.heap.size ≤ k from fun k hk => Nat.le_trans hsz (hown2.lt k hk).1)
      have HB2 := Lib.hid hb2
      refine hK.out _ _ s2 ?_
      clear hK K s1 hgrow2 hown2 f2 hb2 hsz
      refine wpAnyH_take (i := 15) (v := ?_) rfl (by kernel_rfl) (by kernel_rfl) (by kernel_rfl) (fun _ _ _ h => h) (Or.inl ⟨by rfl, ?_⟩) s2 ?_
      rotate_left
      · intro w hSw; first | (obtain ⟨s1, s2, s3, s4, s5, s6, s7, s8⟩ := hSw; go_simp; rfl) | (obtain ⟨s1, s2, s3, s4, s5, s6, s7⟩ := hSw; go_simp; rfl) | (obtain ⟨s1, s2, s3⟩ := hSw; go_simp; rfl) | (obtain ⟨s1, s2⟩ := hSw; go_simp; rfl) | (have s1 := hSw; go_simp; rfl)
      go_simp
      refine wpAnyH_take (i := 16) (v := ?_) rfl (by kernel_rfl) (by kernel_rfl) (by kernel_rfl) (fun _ _ _ h => h) (Or.inl ⟨by rfl, ?_⟩) s2 ?_
      rotate_left
      · intro w hSw; first | (obtain ⟨s1, s2, s3, s4, s5, s6, s7, s8⟩ := hSw; go_simp; rfl) | (obtain ⟨s1, s2, s3, s4, s5, s6, s7⟩ := hSw; go_simp; rfl) | (obtain ⟨s1, s2, s3⟩ := hSw; go_simp; rfl) | (obtain ⟨s1, s2⟩ := hSw; go_simp; rfl) | (have s1 := hSw; go_simp; rfl)
      go_simp
      refine heldOne (i := 17) (by kernel_rfl) rfl (by rfl) (fun K hK => ?_)
      have y33 : w2.cell? ⟨fb, o + 33, none⟩ = some (.slice ao n cap) := by have h33 := H.out.fr.back; rw [HN.out] at h33; exact (HN2.out.cell hl id _).trans h33
      have yfz : ∀ i, w2.frozen? ⟨fb, i, none⟩ = false := fun i => (HN2.out.frozen hl id i).trans (z0 i)
      go_simp
      have hs3 := (H.out.new HN2.out).setBack (bk := F.bk ++ [p + 1]) (v' := .slice ao2 (n + 1) cap2) (by rw [List.length_append, HN.out, List.map_append]; exact World.ownsRow.mono HO2.out (Nat.zero_le _)) (fun k hk e => by have := HVK.out k hk; omega) (by rw [List.length_append, HN.out]; simp; omega)
      have f3 : Fr34 fb o w (w2.setCell ⟨fb, o + 33, none⟩ (.slice ao2 (n + 1) cap2)) := (Fr34.new hl HN2.out).trans (Fr34.set _ (by omega) (by omega))
      have s3 : (w2.setCell ⟨fb, o + 33, none⟩ (.slice ao2 (n + 1) cap2)).cell? ⟨fb, o, none⟩ = some (.int .i64 p) := by rw [cell_set_ne _ (.inr (by omega))]; exact s2
      have HB3 := Lib.hid (show (w2.setCell ⟨fb, o + 33, none⟩ (.slice ao2 (n + 1) cap2)).heap[xb]? = _ from (block_setCell_ne (by omega) _).trans HB2.out)
      have HS3 := Lib.hid hs3
      have HF3 := Lib.hid f3
      refine hK.out _ _ s3 ?_
      clear hK K y33 yfz hs3 f3 s2 HB2
      refine wpAnyH_done (by kernel_rfl) ?_ _
      generalize w2.setCell ⟨fb, o + 33, none⟩ (.slice ao2 (n + 1) cap2) = w3 at s3 HB3 HS3 HF3 ⊢
      have d4 : w3.cell? ⟨xb, 4, none⟩ = some (.int .u64 V) := cell_of_block HB3.out 4
      have zf : ∀ i, w3.frozen? ⟨fb, i, none⟩ = false := HS3.out.fr.free
      go_wp2
      go_ret
      rw [HJ.out]
      exact ⟨_, rfl, HS3.out.setPc V, HF3.out.trans (Fr34.set _ (Nat.le_refl _) (by omega)), fun k hk => .inr (HVK.out k hk)⟩
    · clear y0
      go_simp
      refine hK.out _ _ s1 ?_
      clear hK K s0
      refine heldOne (i := 4) (by kernel_rfl) rfl (by rfl) (fun K hK => ?_)
      go_simp
      refine hK.out _ _ s1 ?_
      clear hK K y1
      refine wpAnyH_take (i := 7) (v := ?_) rfl (by kernel_rfl) (by kernel_rfl) (by kernel_rfl) (fun _ _ _ h => h) (Or.inl ⟨by rfl, ?_⟩) s1 ?_
      rotate_left
      · intro w hSw; first | (obtain ⟨s1, s2, s3, s4, s5, s6, s7, s8⟩ := hSw; go_simp; rfl) | (obtain ⟨s1, s2, s3, s4, s5, s6, s7⟩ := hSw; go_simp; rfl) | (obtain ⟨s1, s2, s3⟩ := hSw; go_simp; rfl) | (obtain ⟨s1, s2⟩ := hSw; go_simp; rfl) | (have s1 := hSw; go_simp; rfl)
      go_simp
      generalize hW1 : (W0.alloc (.cells #[.int .i64 (p + 1)] 3)) = W1 at s1 HN1 HA1 HB1 ⊢
      obtain ⟨sb, hsb⟩ : ∃ sb, W0.heap.size = sb := ⟨_, rfl⟩
      rw [hsb] at HA1 ⊢
      clear hW1
      refine heldOne (i := 14) (by kernel_rfl) rfl (by rfl) (fun K hK => ?_)
      refine wp_append_grows (.tmp 51) (.tmp 57) 24 rfl 3 i0 _ 1 8 Tryd.underlying24 hi hz0 hz1 hz2 rfl (by decide) ao n n (F.bk.map iV) rfl (fun e => ⟨(HNONE.out e).1, (HNONE.out e).1⟩) HLEN.out (fun b e j u hj => ?_) ⟨sb, 0, none⟩ 1 1 [iV (p + 1)] rfl rfl (fun j u hj => HA1.out.add j u hj) (by simp [iV, Value.oneCell']) (by omega) (by unfold maxLen; omega) (by omega) ?_
      · rw [World.cell?_of_block (w := w) (HN1.out.block _ (by rw [block_of_add2]; exact HLT.out b e) id)]
        exact HCELL.out b e j u hj
      intro v2 w2 hown2 hgrow2
      obtain ⟨ao2, cap2, rfl, _⟩ := owned_form hown2
      have f2 : New W1 w2 := (Fr.refl _ _).grown hgrow2 (fun k h => by cases h)
      have s2 : w2.cell? ⟨fb, o, none⟩ = some (.int .i64 p) := (f2.cell (lt_of_cell s1) id _).trans s1
      have hb2 := (f2.block xb (lt_of_block HB1.out) id).trans HB1.out
      have hsz := HN1.out.size
      have HN2 := Lib.hid (HN1.out.trans f2)
      have HO2 := Lib.hid hown2
      have HVK := Lib.hid (show ∀ k, (Value.slice ao2 (n + 1) cap2).ownBlock = some k → w.heap.size ≤ k from fun k hk => Nat.le_trans hsz (hown2.lt k hk).1)
      have HB2 := Lib.hid hb2
      refine hK.out _ _ s2 ?_
      clear hK K s1 hgrow2 hown2 f2 hb2 hsz
      refine wpAnyH_take (i := 15) (v := ?_) rfl (by kernel_rfl) (by kernel_rfl) (by kernel_rfl) (fun _ _ _ h => h) (Or.inl ⟨by rfl, ?_⟩) s2 ?_
      rotate_left
      · intro w hSw; first | (obtain ⟨s1, s2, s3, s4, s5, s6, s7, s8⟩ := hSw; go_simp; rfl) | (obtain ⟨s1, s2, s3, s4, s5, s6, s7⟩ := hSw; go_simp; rfl) | (obtain ⟨s1, s2, s3⟩ := hSw; go_simp; rfl) | (obtain ⟨s1, s2⟩ := hSw; go_simp; rfl) | (have s1 := hSw; go_simp; rfl)
      go_simp
      refine wpAnyH_take (i := 16) (v := ?_) rfl (by kernel_rfl) (by kernel_rfl) (by kernel_rfl) (fun _ _ _ h => h) (Or.inl ⟨by rfl, ?_⟩) s2 ?_
      rotate_left
      · intro w hSw; first | (obtain ⟨s1, s2, s3, s4, s5, s6, s7, s8⟩ := hSw; go_simp; rfl) | (obtain ⟨s1, s2, s3, s4, s5, s6, s7⟩ := hSw; go_simp; rfl) | (obtain ⟨s1, s2, s3⟩ := hSw; go_simp; rfl) | (obtain ⟨s1, s2⟩ := hSw; go_simp; rfl) | (have s1 := hSw; go_simp; rfl)
      go_simp
      refine heldOne (i := 17) (by kernel_rfl) rfl (by rfl) (fun K hK => ?_)
      have y33 : w2.cell? ⟨fb, o + 33, none⟩ = some (.slice ao n cap) := by have h33 := H.out.fr.back; rw [HN.out] at h33; exact (HN2.out.cell hl id _).trans h33
      have yfz : ∀ i, w2.frozen? ⟨fb, i, none⟩ = false := fun i => (HN2.out.frozen hl id i).trans (z0 i)
      go_simp
      have hs3 := (H.out.new HN2.out).setBack (bk := F.bk ++ [p + 1]) (v' := .slice ao2 (n + 1) cap2) (by rw [List.length_append, HN.out, List.map_append]; exact World.ownsRow.mono HO2.out (Nat.zero_le _)) (fun k hk e => by have := HVK.out k hk; omega) (by rw [List.length_append, HN.out]; simp; omega)
      have f3 : Fr34 fb o w (w2.setCell ⟨fb, o + 33, none⟩ (.slice ao2 (n + 1) cap2)) := (Fr34.new hl HN2.out).trans (Fr34.set _ (by omega) (by omega))
      have s3 : (w2.setCell ⟨fb, o + 33, none⟩ (.slice ao2 (n + 1) cap2)).cell? ⟨fb, o, none⟩ = some (.int .i64 p) := by rw [cell_set_ne _ (.inr (by omega))]; exact s2
      have HB3 := Lib.hid (show (w2.setCell ⟨fb, o + 33, none⟩ (.slice ao2 (n + 1) cap2)).heap[xb]? = _ from (block_setCell_ne (by omega) _).trans HB2.out)
      have HS3 := Lib.hid hs3
      have HF3 := Lib.hid f3
      refine hK.out _ _ s3 ?_
      clear hK K y33 yfz hs3 f3 s2 HB2
      refine wpAnyH_done (by kernel_rfl) ?_ _
      generalize w2.setCell ⟨fb, o + 33, none⟩ (.slice ao2 (n + 1) cap2) = w3 at s3 HB3 HS3 HF3 ⊢
      have d4 : w3.cell? ⟨xb, 4, none⟩ = some (.int .u64 V) := cell_of_block HB3.out 4
      have zf : ∀ i, w3.frozen? ⟨fb, i, none⟩ = false := HS3.out.fr.free
      go_wp2
      go_ret
      rw [HJ.out]
      exact ⟨_, rfl, HS3.out.setPc V, HF3.out.trans (Fr34.set _ (Nat.le_refl _) (by omega)), fun k hk => .inr (HVK.out k hk)⟩

set_option maxRecDepth 100000 in
set_option maxHeartbeats 2000000 in
theorem jump_13 (fb o : Nat) (v : Value) (F : Fm) (a : Nat) (B C : Int) (V : Nat) (M W : Int) (w : World) (h : FmAt w fb o v F) (ha : a < 32) (hV : V ≤ 9223372036854775807) (hpc : -9223372036854775808 ≤ F.pc ∧ F.pc < 9223372036854775807) :
    Calls Tryd.prog 27 #[.pointer (some ⟨fb, o, none⟩), insV 13 a B C V M W] w fun e w' => Jumped w fb o v (jumpN 13 a V F) e w' := by
  obtain ⟨ao, cap, rfl, _⟩ := owned_form h.own
  have hfew := h.few
  have hl := h.fr.lt
  obtain ⟨X, hX⟩ : ∃ X, F.rs.getD a 0 = X := ⟨_, rfl⟩
  have HJ := Lib.hid (show jumpN 13 a V F = (0, ⟨if X = 0 then (V : Int) else F.pc + 1, F.rs, F.bk⟩) by
    unfold jumpN
    rw [if_neg (by decide), if_neg (by decide), if_neg (by decide), show (a : Int).toNat = a from rfl, hX]
    simp)
  have c33 := h.fr.back
  have c0 := h.fr.pc
  have ca := h.fr.regD ha
  rw [hX] at ca
  have z0 := h.fr.free
  have t1 : IntKind.i64.wrap (V : Int) = (V : Int) := IntWalk.i64_in _ (by omega)
  obtain ⟨p, hp⟩ : ∃ p, F.pc = p := ⟨_, rfl⟩
  rw [hp] at hpc c0 HJ
  have t2 : IntKind.i64.wrap (p + 1) = p + 1 := IntWalk.i64_in _ (by omega)
  have q1 : (0 : Int) ≤ (a : Int) := by omega
  have q2 : (a : Int) < 32 := by omega
  have H := Lib.hid h
  clear h hp hX
  by_cases hx : X = 0
  all_goals
    have t3 : ((X : Int) == 0) = decide (X = 0) := by rw [Bool.eq_iff_iff]; simp; try omega
    first | rw [decide_eq_true hx] at t3 | rw [decide_eq_false hx] at t3
    have HX := Lib.hid hx
    clear hx
    go_enter Tryd.func27, Tryd.ntmps27
    go_wp2_with fail
    go_quiet (fail)
    have hn1 : New w ((w.alloc (.cells #[.int .i64 13, .int .i64 a, .int .i64 B, .int .i64 C, .int .u64 V, .int .i64 M, .int .i64 W] 52)).drewN nq) := ((Fr.refl _ _).alloc _).drewN nq
    have hb1 : ((w.alloc (.cells #[.int .i64 13, .int .i64 a, .int .i64 B, .int .i64 C, .int .u64 V, .int .i64 M, .int .i64 W] 52)).drewN nq).heap[w.heap.size]? = some (.cells #[.int .i64 13, .int .i64 a, .int .i64 B, .int .i64 C, .int .u64 V, .int .i64 M, .int .i64 W] 52 (0, 0)) := block_alloc_new _ _
    obtain ⟨xb, hxb⟩ : ∃ xb, w.heap.size = xb := ⟨_, rfl⟩
    rw [hxb] at hb1 ⊢
    generalize (w.alloc (.cells #[.int .i64 13, .int .i64 a, .int .i64 B, .int .i64 C, .int .u64 V, .int .i64 M, .int .i64 W] 52)).drewN nq = W1 at hn1 hb1 ⊢
    have d4 : W1.cell? ⟨xb, 4, none⟩ = some (.int .u64 V) := cell_of_block hb1 4
    have d0 : W1.cell? ⟨fb, o, none⟩ = some (.int .i64 p) := (hn1.cell hl id _).trans c0
    have zf : ∀ i, W1.frozen? ⟨fb, i, none⟩ = false := fun i => (hn1.frozen hl id i).trans (z0 i)
    have HN1 := Lib.hid hn1
    clear c0 c33 ca hb1 hn1 z0
    go_wp2
    go_ret
    rw [HJ.out]
    first
      | (rw [if_pos (by have := HX.out; simpa using this)]
         exact ⟨_, rfl, (H.out.new HN1.out).setPc V, (Fr34.new hl HN1.out).trans (Fr34.set _ (Nat.le_refl _) (by omega)), fun k hk => .inl hk⟩)
      | (rw [if_neg (by have := HX.out; simpa using this)]
         exact ⟨_, rfl, (H.out.new HN1.out).setPc (p + 1), (Fr34.new hl HN1.out).trans (Fr34.set _ (Nat.le_refl _) (by omega)), fun k hk => .inl hk⟩)
set_option maxRecDepth 100000 in
set_option maxHeartbeats 2000000 in
theorem jump_14 (fb o : Nat) (v : Value) (F : Fm) (a : Nat) (B C : Int) (V : Nat) (M W : Int) (w : World) (h : FmAt w fb o v F) (ha : a < 32) (hV : V ≤ 9223372036854775807) (hpc : -9223372036854775808 ≤ F.pc ∧ F.pc < 9223372036854775807) :
    Calls Tryd.prog 27 #[.pointer (some ⟨fb, o, none⟩), insV 14 a B C V M W] w fun e w' => Jumped w fb o v (jumpN 14 a V F) e w' := by
  obtain ⟨ao, cap, rfl, _⟩ := owned_form h.own
  have hfew := h.few
  have hl := h.fr.lt
  obtain ⟨X, hX⟩ : ∃ X, F.rs.getD a 0 = X := ⟨_, rfl⟩
  have HJ := Lib.hid (show jumpN 14 a V F = (0, ⟨if ¬ X = 0 then (V : Int) else F.pc + 1, F.rs, F.bk⟩) by
    unfold jumpN
    rw [if_neg (by decide), if_neg (by decide), if_neg (by decide), show (a : Int).toNat = a from rfl, hX]
    simp)
  have c33 := h.fr.back
  have c0 := h.fr.pc
  have ca := h.fr.regD ha
  rw [hX] at ca
  have z0 := h.fr.free
  have t1 : IntKind.i64.wrap (V : Int) = (V : Int) := IntWalk.i64_in _ (by omega)
  obtain ⟨p, hp⟩ : ∃ p, F.pc = p := ⟨_, rfl⟩
  rw [hp] at hpc c0 HJ
  have t2 : IntKind.i64.wrap (p + 1) = p + 1 := IntWalk.i64_in _ (by omega)
  have q1 : (0 : Int) ≤ (a : Int) := by omega
  have q2 : (a : Int) < 32 := by omega
  have H := Lib.hid h
  clear h hp hX
  by_cases hx : X = 0
  all_goals
    have t3 : ((X : Int) == 0) = decide (X = 0) := by rw [Bool.eq_iff_iff]; simp; try omega
    first | rw [decide_eq_true hx] at t3 | rw [decide_eq_false hx] at t3
    have HX := Lib.hid hx
    clear hx
    go_enter Tryd.func27, Tryd.ntmps27
    go_wp2_with fail
    go_quiet (fail)
    have hn1 : New w ((w.alloc (.cells #[.int .i64 14, .int .i64 a, .int .i64 B, .int .i64 C, .int .u64 V, .int .i64 M, .int .i64 W] 52)).drewN nq) := ((Fr.refl _ _).alloc _).drewN nq
    have hb1 : ((w.alloc (.cells #[.int .i64 14, .int .i64 a, .int .i64 B, .int .i64 C, .int .u64 V, .int .i64 M, .int .i64 W] 52)).drewN nq).heap[w.heap.size]? = some (.cells #[.int .i64 14, .int .i64 a, .int .i64 B, .int .i64 C, .int .u64 V, .int .i64 M, .int .i64 W] 52 (0, 0)) := block_alloc_new _ _
    obtain ⟨xb, hxb⟩ : ∃ xb, w.heap.size = xb := ⟨_, rfl⟩
    rw [hxb] at hb1 ⊢
    generalize (w.alloc (.cells #[.int .i64 14, .int .i64 a, .int .i64 B, .int .i64 C, .int .u64 V, .int .i64 M, .int .i64 W] 52)).drewN nq = W1 at hn1 hb1 ⊢
    have d4 : W1.cell? ⟨xb, 4, none⟩ = some (.int .u64 V) := cell_of_block hb1 4
    have d0 : W1.cell? ⟨fb, o, none⟩ = some (.int .i64 p) := (hn1.cell hl id _).trans c0
    have zf : ∀ i, W1.frozen? ⟨fb, i, none⟩ = false := fun i => (hn1.frozen hl id i).trans (z0 i)
    have HN1 := Lib.hid hn1
    clear c0 c33 ca hb1 hn1 z0
    go_wp2
    go_ret
    rw [HJ.out]
    first
      | (rw [if_pos (by have := HX.out; simpa using this)]
         exact ⟨_, rfl, (H.out.new HN1.out).setPc V, (Fr34.new hl HN1.out).trans (Fr34.set _ (Nat.le_refl _) (by omega)), fun k hk => .inl hk⟩)
      | (rw [if_neg (by have := HX.out; simpa using this)]
         exact ⟨_, rfl, (H.out.new HN1.out).setPc (p + 1), (Fr34.new hl HN1.out).trans (Fr34.set _ (Nat.le_refl _) (by omega)), fun k hk => .inl hk⟩)
theorem jump_any (fb o : Nat) (v : Value) (F : Fm) (op A B C : Int) (V : Nat) (M W : Int) (w : World) (h : FmAt w fb o v F) (ho : 12 ≤ op ∧ op ≤ 16) (hA : op = 13 ∨ op = 14 → 0 ≤ A ∧ A < 32) (hV : op ≠ 16 → V ≤ 9223372036854775807) (hpc : -9223372036854775808 ≤ F.pc ∧ F.pc < 9223372036854775807) :
    Calls Tryd.prog 27 #[.pointer (some ⟨fb, o, none⟩), insV op A B C V M W] w fun e w' => Jumped w fb o v (jumpN op A V F) e w' := by
  rcases (show op = 12 ∨ op = 13 ∨ op = 14 ∨ op = 15 ∨ op = 16 by omega) with rfl | rfl | rfl | rfl | rfl
  · exact jump_jmp fb o v F A B C V M W w h (hV (by decide))
  · obtain ⟨a, rfl⟩ := Int.eq_ofNat_of_zero_le (hA (.inl rfl)).1
    exact jump_13 fb o v F a B C V M W w h (by have := (hA (.inl rfl)).2; omega) (hV (by decide)) hpc
  · obtain ⟨a, rfl⟩ := Int.eq_ofNat_of_zero_le (hA (.inr rfl)).1
    exact jump_14 fb o v F a B C V M W w h (by have := (hA (.inr rfl)).2; omega) (hV (by decide)) hpc
  · exact jump_jsr fb o v F A B C V M W w h (hV (by decide)) hpc
  · exact jump_ret fb o v F A B C V M W w h

end Go.Proofs.YtngpcalgjaglmaaDoor
