/- Both frames of the statements, with places to come back to. -/
import Derived.Test.YtngpcalgjaglmaaDoorVmH
import Derived.Test.YtngpcalgjaglmaaDoorVmP
import Derived.Test.YtngpcalgjaglmaaDoorRegL
import Derived.Test.YtngpcalgjaglmaaDoorInts
namespace Go
/-- append onto a row of one's own: where the row is behind it. -/
theorem wp_append_where {P : Program} {o : Oper} {a : Act} {w : World} {K : Act → World → Prop} {Q : Exit → Act → World → Prop}
    (s x : Operand) (t : TypeId) (ho : o.op = Op.call { callee := Callee.builtin Builtin.append, args := #[s, x], argTypes := #[t, t] })
    (base : Nat) (e : TypeId) (i : TypeInfo) (z : Value) (size bytes : Nat) (ht : P.underlying t = some (.slice e)) (hi : P.info? e = some i) (hz : i.zero = some z)
    (hsize : i.size = size) (hby : i.bytes = bytes) (hzs : z.cells.size = size) (hsz : 0 < size)
    (v : Value) (n : Nat) (xs : List Value) (hs : a.eval s = v) (hown : w.ownsRow base e size v n xs)
    (ad : Addr) (m c : Nat) (news : List Value) (hx : a.eval x = .slice (some ad) m c) (hl : news.length = m * size) (hr : ∀ j u, news[j]? = some u → w.cell? (ad.add j) = some u) (h1 : ∀ u ∈ news, u.oneCell' = true)
    (h63 : n + m ≤ maxLen) (hbytes : (n + m) * bytes ≤ 140737488355328) (hbase : base ≤ w.heap.size)
    (h : ∀ v' w', w'.ownsRow base e size v' (n + m) (xs ++ news) → w.grownBy w' v.ownBlock → (∀ k, v'.ownBlock = some k → v.ownBlock = some k ∨ w.heap.size ≤ k) → K (a.put o.dst v') w') : o.wp P a w K Q := by
  obtain ⟨v', w', hrun, r1, r2, _⟩ := run_append_own (P := P) w base t o.type e i z size bytes ht hi hz hsize hby hzs hsz v n xs hown ad m c news hl hr h1 h63 hbytes hbase
  have hw : ∀ k, v'.ownBlock = some k → v.ownBlock = some k ∨ w.heap.size ≤ k := by
    rcases hown.2 with ⟨hv, hn⟩ | ⟨g, cap, cur, hv, hbg, hg, hnc, hcm, hcs, htake⟩
    · subst hv hn
      obtain rfl : xs = [] := List.eq_nil_of_length_eq_zero (by simpa using hown.1)
      obtain ⟨v2, w2, hr2, k2, _, _⟩ := run_append_own (P := P) w w.heap.size t o.type e i z size bytes ht hi hz hsize hby hzs hsz (.slice none 0 0) 0 [] (World.ownsRow_nil w _ e size) ad m c news hl hr h1 h63 hbytes (Nat.le_refl _)
      rw [hrun] at hr2
      obtain ⟨rfl, rfl⟩ : v' = v2 ∧ w' = w2 := by simpa using hr2
      exact fun k hk => .inr (k2.lt k hk).1
    · subst hv
      by_cases hroom : n + m ≤ cap
      · have hr2 := run_append_room (P := P) w t o.type e i ht hi g n cap cur hg ad m c news (by rw [hsize]; exact hl) hr h1 hroom (by rw [hl, hcs, hsize, ← Nat.add_mul]; exact Nat.mul_le_mul_right _ hroom)
        rw [hrun] at hr2
        have e1 := congrArg (fun r => match r with | Result.ok a _ => some a | _ => none) hr2
        simp only [Option.some.injEq] at e1
        subst e1
        exact fun k hk => .inl (by simpa [Value.ownBlock] using hk)
      · obtain ⟨v2, w2, hr2, k2, _⟩ := run_append_arg_grows (P := P) w t o.type e i z size bytes ht hi hz hsize hby hzs hsz ⟨g, 0, none⟩ n cap xs hown.1 (hown.cells (g := g) rfl) ad m c news hl hr (by omega) h63 hbytes
        rw [hrun] at hr2
        obtain ⟨rfl, rfl⟩ : v' = v2 ∧ w' = w2 := by simpa using hr2
        exact fun k hk => .inr (k2.lt k hk).1
  unfold Oper.wp
  simp [execOp, ho, resolve, invoke, builtin, hs, hx, hrun, Result.andThen]
  exact h v' w' r1 r2 hw
/-- An operation behind number z, where none other may come up. -/
theorem lateLast {P : Program} {md : Region.Mode} {Q : Exit → Act → World → Prop} {T : World → Prop} {z : Nat} {l0 : List Oper} {i : Nat} {o : Oper} {n : Nat} {listed : Array Bool} {a : Act} {w : World} (hr : Region.ready md l0.toArray listed = [i]) (ho : l0[i]? = some o)
    (hz : (listed.setIfInBounds i true).getD z true = true) (hw : Region.wanted o (yielded l0.toArray a.tmps) = true)
    (h : ∀ K : Act → World → Prop, Shut (∀ a' w', wpAnyLate P md l0.toArray Q T z n (listed.setIfInBounds i true) a' w' → K a' w') → o.wp P a w K Q) : wpAnyLate P md l0.toArray Q T z (n + 1) listed a w :=
  lateOne hr ho hw (fun K hK => h K (fun a' w' hh => hK a' w' (fun hf => absurd (hz.symm.trans hf) (by simp)) hh))
end Go
namespace Go.Proofs.YtngpcalgjaglmaaDoor
open Go.RowKit

/-- Both frames, with the same in them, apart. -/
structure Fms (w : World) (fb gb : Nat) (v u : Value) (F : Fm) : Prop where
  f : FmAt w fb 0 v F
  g : FmAt w gb 0 u F
  ne : fb ≠ gb
  vg : v.ownBlock ≠ some gb
  uf : u.ownBlock ≠ some fb
  vu : ∀ k, v.ownBlock = some k → u.ownBlock ≠ some k
theorem Fms.new {w w' : World} {fb gb : Nat} {v u : Value} {F : Fm} (h : Fms w fb gb v u F) (f : New w w') : Fms w' fb gb v u F := ⟨h.f.new f, h.g.new f, h.ne, h.vg, h.uf, h.vu⟩
theorem Fms.keep {w w' : World} {fb gb : Nat} {v u : Value} {F : Fm} {S : Nat → Prop} (h : Fms w fb gb v u F) (f : Fr S w w') (h1 : ¬ S fb) (h2 : ¬ S gb) (h3 : ∀ k, v.ownBlock = some k → ¬ S k) (h4 : ∀ k, u.ownBlock = some k → ¬ S k) : Fms w' fb gb v u F :=
  ⟨h.f.keep f h1 h3, h.g.keep f h2 h4, h.ne, h.vg, h.uf, h.vu⟩
/-- Behind the last two stores. -/
theorem frames_end {w w0 wd : World} {fb : Nat} {pc : Int} {rs : List Nat} {ys : List Int} {v u v1 v2 : Value} (hF : FrAt wd fb 0 pc rs v) (hG : FrAt wd (fb + 1) 0 pc rs u)
    {m : Nat} (hm : ys.length = m) (hV1 : wd.ownsRow 0 3 1 v1 m (ys.map iV)) (hV2 : wd.ownsRow 0 3 1 v2 m (ys.map iV))
    (hW1 : ∀ j, v1.ownBlock = some j → v.ownBlock = some j ∨ w0.heap.size ≤ j) (hW2 : ∀ j, v2.ownBlock = some j → u.ownBlock = some j ∨ (w0.heap.size ≤ j ∧ ∀ i, v1.ownBlock = some i → i ≠ j))
    (hvf : ∀ k, v.ownBlock = some k → k ≠ fb) (hug : ∀ k, u.ownBlock = some k → k ≠ fb + 1) (hvg : v.ownBlock ≠ some (fb + 1)) (huf : u.ownBlock ≠ some fb) (hvu : ∀ k, v.ownBlock = some k → u.ownBlock ≠ some k)
    (hvl : ∀ j, v.ownBlock = some j → j < w0.heap.size) (hul : ∀ j, u.ownBlock = some j → j < w0.heap.size) (hfl : fb + 1 < w0.heap.size) (hn : New w wd) (hwf : w.heap.size ≤ fb)
    (hv : ∀ j, v.ownBlock = some j → w.heap.size ≤ j) (hu : ∀ j, u.ownBlock = some j → w.heap.size ≤ j) (hw0 : w.heap.size ≤ w0.heap.size) (hl : ys.length ≤ 8) :
    Fms ((wd.setCell ⟨fb, 33, none⟩ v1).setCell ⟨fb + 1, 33, none⟩ v2) fb (fb + 1) v1 v2 ⟨pc, rs, ys⟩ ∧ (∀ j, v1.ownBlock = some j → w.heap.size ≤ j) ∧ (∀ j, v2.ownBlock = some j → w.heap.size ≤ j) ∧ New w ((wd.setCell ⟨fb, 33, none⟩ v1).setCell ⟨fb + 1, 33, none⟩ v2) := by
  have n1 : ∀ k, v1.ownBlock = some k → k ≠ fb ∧ k ≠ fb + 1 := fun k hk => by
    rcases hW1 k hk with h | h
    · exact ⟨hvf k h, fun e => hvg (by rw [← e]; exact h)⟩
    · exact ⟨by omega, by omega⟩
  have n2 : ∀ k, v2.ownBlock = some k → k ≠ fb ∧ k ≠ fb + 1 := fun k hk => by
    rcases hW2 k hk with h | h
    · exact ⟨fun e => huf (by rw [← e]; exact h), hug k h⟩
    · exact ⟨by omega, by omega⟩
  have f1 : Fr (· = fb) wd (wd.setCell ⟨fb, 33, none⟩ v1) := (Fr.refl (· = fb) _).setCell (fun _ => rfl) v1
  have f2 : Fr (· = fb + 1) (wd.setCell ⟨fb, 33, none⟩ v1) ((wd.setCell ⟨fb, 33, none⟩ v1).setCell ⟨fb + 1, 33, none⟩ v2) := (Fr.refl (· = fb + 1) _).setCell (fun _ => rfl) v2
  have hF1 := hF.setBack v1
  rw [Nat.zero_add] at hF1
  have hG1 := (hG.keep f1 (by omega)).setBack v2
  rw [Nat.zero_add] at hG1
  have o1 := own_keptV (own_keptV hV1 f1 (fun k hk => (n1 k hk).1)) f2 (fun k hk => (n1 k hk).2)
  have o2 := own_keptV (own_keptV hV2 f1 (fun k hk => (n2 k hk).1)) f2 (fun k hk => (n2 k hk).2)
  refine ⟨⟨⟨hF1.keep f2 (by omega), (by show World.ownsRow _ 0 3 1 v1 ys.length _; rw [hm]; exact o1), fun k hk => (n1 k hk).1, hl⟩, ⟨hG1, (by show World.ownsRow _ 0 3 1 v2 ys.length _; rw [hm]; exact o2), fun k hk => (n2 k hk).2, hl⟩, by omega, fun e => (n1 _ e).2 rfl, fun e => (n2 _ e).1 rfl, fun k hk e => ?_⟩, fun j hj => ?_, fun j hj => ?_, (hn.then f1 (fun i hi e => by omega)).then f2 (fun i hi e => by omega)⟩
  · rcases hW2 k e with h | ⟨h, h3⟩
    · rcases hW1 k hk with h2 | h2
      · exact hvu k h2 h
      · have := hul k h; omega
    · exact h3 k hk rfl
  · rcases hW1 j hj with h | h
    · exact hv j h
    · omega
  · rcases hW2 j hj with h | ⟨h, _⟩
    · exact hu j h
    · omega
theorem take_map {ys : List Int} {k : Nat} {x : Int} (h : ys[k]? = some x) : (ys.take (k + 1)).map iV = (ys.take k).map iV ++ [iV x] := by
  rw [List.take_add_one, h, List.map_append]; rfl

set_option maxRecDepth 100000 in
set_option maxHeartbeats 8000000 in
theorem frame_any (pc : Int) (xs : List Nat) (ao : Option Addr) (cap : Nat) (ys : List Int) (bo : Option Addr) (bcap : Nat) (w : World) (hc : Nats w ao xs) (hx : ∀ x ∈ xs, x < 18446744073709551616) (hm : xs.length ≤ 9223372036854775807)
    (hb : IntsI w bo ys) (hbm : ys.length ≤ 9223372036854775807) :
    Calls Tryd.prog 7 #[.int .i64 pc, .slice ao xs.length cap, .slice bo ys.length bcap] w fun e w' => ∃ fb gb v u, e = .returned (.tuple #[.pointer (some ⟨fb, 0, none⟩), .pointer (some ⟨gb, 0, none⟩)]) ∧ w.heap.size ≤ fb ∧ w.heap.size ≤ gb ∧
      Fms w' fb gb v u ⟨pc, padR xs (min xs.length 32), ys.take 8⟩ ∧ (∀ k, v.ownBlock = some k → w.heap.size ≤ k) ∧ (∀ k, u.ownBlock = some k → w.heap.size ≤ k) ∧ New w w' := by
  obtain ⟨M, hM⟩ : ∃ M, ys.length = M := ⟨_, rfl⟩
  have HBO := Lib.hid hb
  have HM := Lib.hid hM
  rw [hM] at hbm ⊢
  obtain ⟨i0, hi, hz0, hz1, hz2⟩ := info_parts intInfoV
  clear hb hM
  obtain ⟨L, hL⟩ : ∃ L, xs.length = L := ⟨_, rfl⟩
  have HC := Lib.hid hc
  have HX := Lib.hid hx
  have HL := Lib.hid hL
  rw [hL] at hm ⊢
  clear hc hx hL
  go_enter Tryd.func7, Tryd.ntmps7
  go_wp2_with fail
  have hb1 : (w.alloc (.cells (frC pc) 50)).heap[w.heap.size]? = some (.cells (frC pc) 50 (0, 0)) := block_alloc_new _ _
  obtain ⟨W2, hW2⟩ : ∃ W2, (w.alloc (.cells (frC pc) 50)).alloc (.cells (frC pc) 70) = W2 := ⟨_, rfl⟩
  have hf2 : FmAt W2 w.heap.size 0 (.slice none 0 0) ⟨pc, padR xs 0, []⟩ := by rw [← hW2]; exact (fm_block hb1).new ((Fr.refl _ _).alloc _)
  have hg2 : FmAt W2 (w.heap.size + 1) 0 (.slice none 0 0) ⟨pc, padR xs 0, []⟩ := by rw [← hW2]; exact fm_block (block_alloc_new1 _ _ _)
  have hn2 : New w W2 := by rw [← hW2]; exact ((Fr.refl _ _).alloc _).alloc _
  unfold frC at hW2
  rw [hW2]
  clear hW2 hb1
  obtain ⟨fb, hfb⟩ : ∃ fb, w.heap.size = fb := ⟨_, rfl⟩
  have hwf : w.heap.size ≤ fb := by omega
  rw [hfb] at hf2 hg2 ⊢
  have HF2 := Lib.hid hf2
  have HG2 := Lib.hid hg2
  have HN2 := Lib.hid hn2
  clear hf2 hg2 hn2 hfb
  go_wp2_with fail
  go_loopw [10] (fun i wr => ∃ k : Nat, k ≤ L ∧ k ≤ 32 ∧ i = .int .i64 k ∧ FmAt wr fb 0 (.slice none 0 0) ⟨pc, padR xs k, []⟩ ∧ FmAt wr (fb + 1) 0 (.slice none 0 0) ⟨pc, padR xs k, []⟩ ∧ New w wr) (fun i _ => L - (intOf i).toNat)
  case atStart => exact ⟨0, by omega, by omega, rfl, HF2.out, HG2.out, HN2.out⟩
  case round =>
    clear HF2 HG2 HN2
    obtain ⟨k, hk, hk2, rfl, hf, hg, hn⟩ := hrel
    have HF := Lib.hid hf
    have HG := Lib.hid hg
    have HN := Lib.hid hn
    clear hf hg hn
    by_cases hlt : k < L ∧ k < 32
    · obtain ⟨hlt1, hlt2⟩ := hlt
      obtain ⟨x, hxk⟩ : ∃ x, xs[k]? = some x := ⟨xs[k]'(by rw [HL.out]; exact hlt1), by simp⟩
      obtain ⟨g, off, rfl, hgl, c0⟩ := HC.out k x hxk
      have hxb := HX.out x (List.mem_of_getElem? hxk)
      have c1 : wr.drew.cell? ⟨g, off + k, none⟩ = some (.int .u64 x) := (HN.out.cell hgl id _).trans c0
      have q1 : (0 : Int) ≤ (k : Int) := by omega
      have q2 : (k : Int) < (L : Int) := by omega
      have q3 : (k : Int) < 32 := by omega
      have HS := Lib.hid (padR_set hxk hlt2)
      clear c0 hxk
      go_wp2_with fail
      refine heldStart (fun wz => wz.cell? ⟨g, off + k, none⟩ = some (.int .u64 x)) (by kernel_rfl) ?_
      have n0 : New wr wr.drew := (Fr.refl _ _).drew
      have HF0 := Lib.hid (HF.out.new n0)
      have HG0 := Lib.hid (HG.out.new n0)
      have HN0 := Lib.hid (HN.out.trans n0)
      clear n0
      generalize wr.drew = w3 at c1 HF0 HG0 HN0 ⊢
      refine wpAnyH_take (i := 0) (v := ?_) rfl (by kernel_rfl) (by kernel_rfl) (by kernel_rfl) (fun _ _ _ h => h) (Or.inl ⟨by rfl, ?_⟩) c1 ?_
      rotate_left
      · intro w hSw; first | (obtain ⟨s1, s2, s3, s4, s5, s6, s7, s8⟩ := hSw; go_simp; rfl) | (obtain ⟨s1, s2, s3, s4, s5, s6, s7⟩ := hSw; go_simp; rfl) | (obtain ⟨s1, s2, s3⟩ := hSw; go_simp; rfl) | (obtain ⟨s1, s2⟩ := hSw; go_simp; rfl) | (have s1 := hSw; go_simp; rfl)
      go_simp
      refine wpAnyH_take (i := 1) (v := ?_) rfl (by kernel_rfl) (by kernel_rfl) (by kernel_rfl) (fun _ _ _ h => h) (Or.inl ⟨by rfl, ?_⟩) c1 ?_
      rotate_left
      · intro w hSw; first | (obtain ⟨s1, s2, s3, s4, s5, s6, s7, s8⟩ := hSw; go_simp; rfl) | (obtain ⟨s1, s2, s3, s4, s5, s6, s7⟩ := hSw; go_simp; rfl) | (obtain ⟨s1, s2, s3⟩ := hSw; go_simp; rfl) | (obtain ⟨s1, s2⟩ := hSw; go_simp; rfl) | (have s1 := hSw; go_simp; rfl)
      go_simp
      refine wpAnyH_take (i := 2) (v := ?_) rfl (by kernel_rfl) (by kernel_rfl) (by kernel_rfl) (fun _ _ _ h => h) (Or.inl ⟨by rfl, ?_⟩) c1 ?_
      rotate_left
      · intro w hSw; first | (obtain ⟨s1, s2, s3, s4, s5, s6, s7, s8⟩ := hSw; go_simp; rfl) | (obtain ⟨s1, s2, s3, s4, s5, s6, s7⟩ := hSw; go_simp; rfl) | (obtain ⟨s1, s2, s3⟩ := hSw; go_simp; rfl) | (obtain ⟨s1, s2⟩ := hSw; go_simp; rfl) | (have s1 := hSw; go_simp; rfl)
      go_simp
      refine wpAnyH_take (i := 3) (v := ?_) rfl (by kernel_rfl) (by kernel_rfl) (by kernel_rfl) (fun _ _ _ h => h) (Or.inl ⟨by rfl, ?_⟩) c1 ?_
      rotate_left
      · intro w hSw; first | (obtain ⟨s1, s2, s3, s4, s5, s6, s7, s8⟩ := hSw; go_simp; rfl) | (obtain ⟨s1, s2, s3, s4, s5, s6, s7⟩ := hSw; go_simp; rfl) | (obtain ⟨s1, s2, s3⟩ := hSw; go_simp; rfl) | (obtain ⟨s1, s2⟩ := hSw; go_simp; rfl) | (have s1 := hSw; go_simp; rfl)
      go_simp
      refine wpAnyH_take (i := 4) (v := ?_) rfl (by kernel_rfl) (by kernel_rfl) (by kernel_rfl) (fun _ _ _ h => h) (Or.inl ⟨by rfl, ?_⟩) c1 ?_
      rotate_left
      · intro w hSw; first | (obtain ⟨s1, s2, s3, s4, s5, s6, s7, s8⟩ := hSw; go_simp; rfl) | (obtain ⟨s1, s2, s3, s4, s5, s6, s7⟩ := hSw; go_simp; rfl) | (obtain ⟨s1, s2, s3⟩ := hSw; go_simp; rfl) | (obtain ⟨s1, s2⟩ := hSw; go_simp; rfl) | (have s1 := hSw; go_simp; rfl)
      go_simp
      refine wpAnyH_take (i := 5) (v := ?_) rfl (by kernel_rfl) (by kernel_rfl) (by kernel_rfl) (fun _ _ _ h => h) (Or.inl ⟨by rfl, ?_⟩) c1 ?_
      rotate_left
      · intro w hSw; first | (obtain ⟨s1, s2, s3, s4, s5, s6, s7, s8⟩ := hSw; go_simp; rfl) | (obtain ⟨s1, s2, s3, s4, s5, s6, s7⟩ := hSw; go_simp; rfl) | (obtain ⟨s1, s2, s3⟩ := hSw; go_simp; rfl) | (obtain ⟨s1, s2⟩ := hSw; go_simp; rfl) | (have s1 := hSw; go_simp; rfl)
      go_simp
      refine wpAnyH_take (i := 6) (v := ?_) rfl (by kernel_rfl) (by kernel_rfl) (by kernel_rfl) (fun _ _ _ h => h) (Or.inl ⟨by rfl, ?_⟩) c1 ?_
      rotate_left
      · intro w hSw; first | (obtain ⟨s1, s2, s3, s4, s5, s6, s7, s8⟩ := hSw; go_simp; rfl) | (obtain ⟨s1, s2, s3, s4, s5, s6, s7⟩ := hSw; go_simp; rfl) | (obtain ⟨s1, s2, s3⟩ := hSw; go_simp; rfl) | (obtain ⟨s1, s2⟩ := hSw; go_simp; rfl) | (have s1 := hSw; go_simp; rfl)
      go_simp
      refine wpAnyH_take (i := 7) (v := ?_) rfl (by kernel_rfl) (by kernel_rfl) (by kernel_rfl) (fun _ _ _ h => h) (Or.inl ⟨by rfl, ?_⟩) c1 ?_
      rotate_left
      · intro w hSw; first | (obtain ⟨s1, s2, s3, s4, s5, s6, s7, s8⟩ := hSw; go_simp; rfl) | (obtain ⟨s1, s2, s3, s4, s5, s6, s7⟩ := hSw; go_simp; rfl) | (obtain ⟨s1, s2, s3⟩ := hSw; go_simp; rfl) | (obtain ⟨s1, s2⟩ := hSw; go_simp; rfl) | (have s1 := hSw; go_simp; rfl)
      go_simp
      refine wpAnyH_take (i := 8) (v := ?_) rfl (by kernel_rfl) (by kernel_rfl) (by kernel_rfl) (fun _ _ _ h => h) (Or.inl ⟨by rfl, ?_⟩) c1 ?_
      rotate_left
      · intro w hSw; first | (obtain ⟨s1, s2, s3, s4, s5, s6, s7, s8⟩ := hSw; go_simp; rfl) | (obtain ⟨s1, s2, s3, s4, s5, s6, s7⟩ := hSw; go_simp; rfl) | (obtain ⟨s1, s2, s3⟩ := hSw; go_simp; rfl) | (obtain ⟨s1, s2⟩ := hSw; go_simp; rfl) | (have s1 := hSw; go_simp; rfl)
      go_simp
      refine wpAnyH_take (i := 9) (v := ?_) rfl (by kernel_rfl) (by kernel_rfl) (by kernel_rfl) (fun _ _ _ h => h) (Or.inl ⟨by rfl, ?_⟩) c1 ?_
      rotate_left
      · intro w hSw; first | (obtain ⟨s1, s2, s3, s4, s5, s6, s7, s8⟩ := hSw; go_simp; rfl) | (obtain ⟨s1, s2, s3, s4, s5, s6, s7⟩ := hSw; go_simp; rfl) | (obtain ⟨s1, s2, s3⟩ := hSw; go_simp; rfl) | (obtain ⟨s1, s2⟩ := hSw; go_simp; rfl) | (have s1 := hSw; go_simp; rfl)
      go_simp
      refine wpAnyH_take (i := 10) (v := ?_) rfl (by kernel_rfl) (by kernel_rfl) (by kernel_rfl) (fun _ _ _ h => h) (Or.inl ⟨by rfl, ?_⟩) c1 ?_
      rotate_left
      · intro w hSw; first | (obtain ⟨s1, s2, s3, s4, s5, s6, s7, s8⟩ := hSw; go_simp; rfl) | (obtain ⟨s1, s2, s3, s4, s5, s6, s7⟩ := hSw; go_simp; rfl) | (obtain ⟨s1, s2, s3⟩ := hSw; go_simp; rfl) | (obtain ⟨s1, s2⟩ := hSw; go_simp; rfl) | (have s1 := hSw; go_simp; rfl)
      go_simp
      refine wpAnyH_take (i := 11) (v := ?_) rfl (by kernel_rfl) (by kernel_rfl) (by kernel_rfl) (fun _ _ _ h => h) (Or.inl ⟨by rfl, ?_⟩) c1 ?_
      rotate_left
      · intro w hSw; first | (obtain ⟨s1, s2, s3, s4, s5, s6, s7, s8⟩ := hSw; go_simp; rfl) | (obtain ⟨s1, s2, s3, s4, s5, s6, s7⟩ := hSw; go_simp; rfl) | (obtain ⟨s1, s2, s3⟩ := hSw; go_simp; rfl) | (obtain ⟨s1, s2⟩ := hSw; go_simp; rfl) | (have s1 := hSw; go_simp; rfl)
      go_simp
      refine wpAnyH_take (i := 12) (v := ?_) rfl (by kernel_rfl) (by kernel_rfl) (by kernel_rfl) (fun _ _ _ h => h) (Or.inl ⟨by rfl, ?_⟩) c1 ?_
      rotate_left
      · intro w hSw; first | (obtain ⟨s1, s2, s3, s4, s5, s6, s7, s8⟩ := hSw; go_simp; rfl) | (obtain ⟨s1, s2, s3, s4, s5, s6, s7⟩ := hSw; go_simp; rfl) | (obtain ⟨s1, s2, s3⟩ := hSw; go_simp; rfl) | (obtain ⟨s1, s2⟩ := hSw; go_simp; rfl) | (have s1 := hSw; go_simp; rfl)
      go_simp
      refine wpAnyH_take (i := 13) (v := ?_) rfl (by kernel_rfl) (by kernel_rfl) (by kernel_rfl) (fun _ _ _ h => h) (Or.inl ⟨by rfl, ?_⟩) c1 ?_
      rotate_left
      · intro w hSw; first | (obtain ⟨s1, s2, s3, s4, s5, s6, s7, s8⟩ := hSw; go_simp; rfl) | (obtain ⟨s1, s2, s3, s4, s5, s6, s7⟩ := hSw; go_simp; rfl) | (obtain ⟨s1, s2, s3⟩ := hSw; go_simp; rfl) | (obtain ⟨s1, s2⟩ := hSw; go_simp; rfl) | (have s1 := hSw; go_simp; rfl)
      go_simp
      refine wpAnyH_take (i := 14) (v := ?_) rfl (by kernel_rfl) (by kernel_rfl) (by kernel_rfl) (fun _ _ _ h => h) (Or.inl ⟨by rfl, ?_⟩) c1 ?_
      rotate_left
      · intro w hSw; first | (obtain ⟨s1, s2, s3, s4, s5, s6, s7, s8⟩ := hSw; go_simp; rfl) | (obtain ⟨s1, s2, s3, s4, s5, s6, s7⟩ := hSw; go_simp; rfl) | (obtain ⟨s1, s2, s3⟩ := hSw; go_simp; rfl) | (obtain ⟨s1, s2⟩ := hSw; go_simp; rfl) | (have s1 := hSw; go_simp; rfl)
      go_simp
      refine wpAnyH_take (i := 16) (v := ?_) rfl (by kernel_rfl) (by kernel_rfl) (by kernel_rfl) (fun _ _ _ h => h) (Or.inl ⟨by rfl, ?_⟩) c1 ?_
      rotate_left
      · intro w hSw; first | (obtain ⟨s1, s2, s3, s4, s5, s6, s7, s8⟩ := hSw; go_simp; rfl) | (obtain ⟨s1, s2, s3, s4, s5, s6, s7⟩ := hSw; go_simp; rfl) | (obtain ⟨s1, s2, s3⟩ := hSw; go_simp; rfl) | (obtain ⟨s1, s2⟩ := hSw; go_simp; rfl) | (have s1 := hSw; go_simp; rfl)
      go_simp
      refine wpAnyH_take (i := 17) (v := ?_) rfl (by kernel_rfl) (by kernel_rfl) (by kernel_rfl) (fun _ _ _ h => h) (Or.inl ⟨by rfl, ?_⟩) c1 ?_
      rotate_left
      · intro w hSw; first | (obtain ⟨s1, s2, s3, s4, s5, s6, s7, s8⟩ := hSw; go_simp; rfl) | (obtain ⟨s1, s2, s3, s4, s5, s6, s7⟩ := hSw; go_simp; rfl) | (obtain ⟨s1, s2, s3⟩ := hSw; go_simp; rfl) | (obtain ⟨s1, s2⟩ := hSw; go_simp; rfl) | (have s1 := hSw; go_simp; rfl)
      go_simp
      refine heldOne (i := 15) (by kernel_rfl) rfl (by rfl) (fun K hK => ?_)
      have ya := HF0.out.fr.regD hlt2
      have yz := HF0.out.fr.free
      rw [Nat.zero_add] at ya
      go_simp
      have hf4 := HF0.out.setReg hlt2 hxb
      have hg4 := HG0.out.keep (Fr34.set (fb := fb) (o := 0) (i := 0 + 1 + k) (.int .u64 (x : Nat)) (by omega) (by omega)).fr (by omega) (fun k hk => by cases hk)
      have s4 : (w3.setCell ⟨fb, 0 + 1 + k, none⟩ (.int .u64 (x : Nat))).cell? ⟨g, off + k, none⟩ = some (.int .u64 x) := by rw [cell_set_ne _ (.inl (by omega))]; exact c1
      have hn4 := HN0.out.then (Fr34.set (fb := fb) (o := 0) (w := w3) (i := 0 + 1 + k) (.int .u64 (x : Nat)) (by omega) (by omega)).fr (fun i hi e => by omega)
      rw [Nat.zero_add] at hf4 hg4 s4 hn4
      have HF4 := Lib.hid hf4
      have HG4 := Lib.hid hg4
      have HN4 := Lib.hid hn4
      refine hK.out _ _ s4 ?_
      clear hK K ya yz hf4 hg4 hn4 c1
      generalize w3.setCell ⟨fb, 1 + k, none⟩ (.int .u64 (x : Nat)) = w4 at s4 HF4 HG4 HN4 ⊢
      refine wpAnyH_take (i := 18) (v := ?_) rfl (by kernel_rfl) (by kernel_rfl) (by kernel_rfl) (fun _ _ _ h => h) (Or.inl ⟨by rfl, ?_⟩) s4 ?_
      rotate_left
      · intro w hSw; first | (obtain ⟨s1, s2, s3, s4, s5, s6, s7, s8⟩ := hSw; go_simp; rfl) | (obtain ⟨s1, s2, s3, s4, s5, s6, s7⟩ := hSw; go_simp; rfl) | (obtain ⟨s1, s2, s3⟩ := hSw; go_simp; rfl) | (obtain ⟨s1, s2⟩ := hSw; go_simp; rfl) | (have s1 := hSw; go_simp; rfl)
      go_simp
      refine heldOne (i := 19) (by kernel_rfl) rfl (by rfl) (fun K hK => ?_)
      have ya := HG4.out.fr.regD hlt2
      have yz := HG4.out.fr.free
      rw [Nat.zero_add] at ya
      go_simp
      have hg5 := HG4.out.setReg hlt2 hxb
      have hf5 := HF4.out.keep (Fr34.set (fb := fb + 1) (o := 0) (i := 0 + 1 + k) (.int .u64 (x : Nat)) (by omega) (by omega)).fr (by omega) (fun k hk => by cases hk)
      have s5 : (w4.setCell ⟨fb + 1, 0 + 1 + k, none⟩ (.int .u64 (x : Nat))).cell? ⟨g, off + k, none⟩ = some (.int .u64 x) := by rw [cell_set_ne _ (.inl (by omega))]; exact s4
      have hn5 := HN4.out.then (Fr34.set (fb := fb + 1) (o := 0) (w := w4) (i := 0 + 1 + k) (.int .u64 (x : Nat)) (by omega) (by omega)).fr (fun i hi e => by omega)
      rw [Nat.zero_add] at hf5 hg5 s5 hn5
      rw [HS.out] at hf5 hg5
      have HF5 := Lib.hid hf5
      have HG5 := Lib.hid hg5
      have HN5 := Lib.hid hn5
      refine hK.out _ _ s5 ?_
      clear hK K ya yz hf5 hg5 hn5 s4
      refine wpAnyH_done (by kernel_rfl) ?_ _
      go_wp2
      go_roundw
      case rel => exact ⟨k + 1, by omega, by omega, by go_num, HF5.out, HG5.out, HN5.out⟩
      case measure => simp [intOf]; omega
    · have hmin : min L 32 = k := by omega
      rcases (show (k < L ∧ ¬ k < 32) ∨ ¬ k < L by omega) with ⟨h7, h8⟩ | h7
      all_goals
        have HF1 := Lib.hid (show FmAt wr fb 0 (.slice none 0 0) ⟨pc, padR xs (min L 32), []⟩ by rw [hmin]; exact HF.out)
        have HG1 := Lib.hid (show FmAt wr (fb + 1) 0 (.slice none 0 0) ⟨pc, padR xs (min L 32), []⟩ by rw [hmin]; exact HG.out)
        clear HF HG hmin
        obtain ⟨rs, hrs⟩ : ∃ rs, padR xs (min L 32) = rs := ⟨_, rfl⟩
        rw [hrs] at HF1 HG1
        have HRS := Lib.hid hrs
        clear hrs
        go_wp2_with fail
        go_loopw [11] (fun i wx => ∃ q v u, q ≤ M ∧ q ≤ 8 ∧ i = .int .i64 ((q : Nat) : Int) ∧ Fms wx fb (fb + 1) v u ⟨pc, rs, ys.take q⟩ ∧ (∀ j, v.ownBlock = some j → w.heap.size ≤ j) ∧ (∀ j, u.ownBlock = some j → w.heap.size ≤ j) ∧ New w wx) (fun i _ => M - (intOf i).toNat)
        case atStart => exact ⟨0, _, _, by omega, by omega, rfl, ⟨HF1.out, HG1.out, by omega, by simp [Value.ownBlock], by simp [Value.ownBlock], fun j hj => by cases hj⟩, fun j hj => (by cases hj), fun j hj => (by cases hj), HN.out⟩
        case round =>
          clear HF1 HG1 HN
          obtain ⟨q, v, u, hq, hq8, rfl, hfs, hv, hu, hn⟩ := hrel
          have HFS := Lib.hid hfs
          have HN := Lib.hid hn
          have HV := Lib.hid hv
          have HU := Lib.hid hu
          clear hfs hn hv hu
          by_cases hlt : q < M ∧ q < 8
          · obtain ⟨hlt1, hlt2⟩ := hlt
            obtain ⟨x, hxk⟩ : ∃ x, ys[q]? = some x := ⟨ys[q]'(by rw [HM.out]; exact hlt1), by simp⟩
            obtain ⟨g, off, rfl, hgl, c0⟩ := HBO.out q x hxk
            have hlen : (ys.take q).length = q := by rw [List.length_take, HM.out]; omega
            have hlen2 : (ys.take (q + 1)).length = q + 1 := by rw [List.length_take, HM.out]; omega
            have HTK := Lib.hid (take_map hxk)
            obtain ⟨a1, c1, e1, _⟩ := owned_form HFS.out.f.own
            obtain ⟨a2, c2, e2, _⟩ := owned_form HFS.out.g.own
            have e1' : v = .slice a1 q c1 := by rw [e1]; show Value.slice a1 (ys.take q).length c1 = _; rw [hlen]
            have e2' : u = .slice a2 q c2 := by rw [e2]; show Value.slice a2 (ys.take q).length c2 = _; rw [hlen]
            subst e1' e2'
            clear e1 e2
            have q1 : (0 : Int) ≤ (q : Int) := by omega
            have q2 : (q : Int) < (M : Int) := by omega
            have q3 : (q : Int) < 8 := by omega
            have HL2 := Lib.hid hlen2
            clear hxk hlen2
            go_wp2_with fail
            have n0 : New wr wr.drew := (Fr.refl _ _).drew
            have hf0 := HFS.out.f.new n0
            have hg0 := HFS.out.g.new n0
            have ho1 := hf0.own
            have ho2 := hg0.own
            have HAPV := Lib.hid hf0.ap
            have HAPU := Lib.hid hg0.ap
            rw [show (Fm.mk pc rs (ys.take q)).bk = ys.take q from rfl, hlen] at ho1 ho2
            have HFR := Lib.hid (show FrAt wr.drew fb 0 pc rs (.slice a1 q c1) from hf0.fr)
            have HGR := Lib.hid (show FrAt wr.drew (fb + 1) 0 pc rs (.slice a2 q c2) from hg0.fr)
            have HO1 := Lib.hid ho1
            have HO2 := Lib.hid ho2
            have HN0 := Lib.hid (HN.out.trans n0)
            have hvlt : ∀ j, (Value.slice a1 q c1).ownBlock = some j → j < wr.drew.heap.size := fun j hj => (ho1.lt j hj).2
            have hult : ∀ j, (Value.slice a2 q c2).ownBlock = some j → j < wr.drew.heap.size := fun j hj => (ho2.lt j hj).2
            have hffl : fb + 1 < wr.drew.heap.size := hg0.fr.lt
            refine lateStart (fun wz => wz.cell? ⟨fb, 33, none⟩ = some (.slice a1 q c1) ∧ wz.cell? ⟨fb + 1, 33, none⟩ = some (.slice a2 q c2) ∧ wz.cell? ⟨g, off + q, none⟩ = some (.int .i64 x)) 24 (by kernel_rfl) ?_
            have HT := Lib.hid (fun (wz : World) (h1 : FrAt wz fb 0 pc rs (.slice a1 q c1)) (h2 : FrAt wz (fb + 1) 0 pc rs (.slice a2 q c2)) (h3 : New w wz) => show wz.cell? ⟨fb, 33, none⟩ = some (.slice a1 q c1) ∧ wz.cell? ⟨fb + 1, 33, none⟩ = some (.slice a2 q c2) ∧ wz.cell? ⟨g, off + q, none⟩ = some (.int .i64 x) from
              ⟨h1.back, h2.back, (h3.cell hgl id _).trans c0⟩)
            generalize wr.drew = w0 at HFR HGR HO1 HO2 HN0 hvlt hult hffl ⊢
            have s0 := HT.out w0 HFR.out HGR.out HN0.out
            clear n0 hf0 hg0 ho1 ho2 hlen c0
            refine wpAnyLate_pure (i := 0) (v := ?_) rfl (by kernel_rfl) (by kernel_rfl) (by kernel_rfl) (fun _ _ _ h => h) (Or.inl ⟨by rfl, ?_⟩) s0 ?_
            rotate_left
            · intro w hSw; first | (obtain ⟨s1, s2, s3, s4, s5, s6, s7, s8⟩ := hSw; go_simp; rfl) | (obtain ⟨s1, s2, s3, s4, s5, s6, s7⟩ := hSw; go_simp; rfl) | (obtain ⟨s1, s2, s3⟩ := hSw; go_simp; rfl) | (obtain ⟨s1, s2⟩ := hSw; go_simp; rfl) | (have s1 := hSw; go_simp; rfl)
            go_simp
            refine wpAnyLate_pure (i := 1) (v := ?_) rfl (by kernel_rfl) (by kernel_rfl) (by kernel_rfl) (fun _ _ _ h => h) (Or.inl ⟨by rfl, ?_⟩) s0 ?_
            rotate_left
            · intro w hSw; first | (obtain ⟨s1, s2, s3, s4, s5, s6, s7, s8⟩ := hSw; go_simp; rfl) | (obtain ⟨s1, s2, s3, s4, s5, s6, s7⟩ := hSw; go_simp; rfl) | (obtain ⟨s1, s2, s3⟩ := hSw; go_simp; rfl) | (obtain ⟨s1, s2⟩ := hSw; go_simp; rfl) | (have s1 := hSw; go_simp; rfl)
            go_simp
            refine wpAnyLate_pure (i := 2) (v := ?_) rfl (by kernel_rfl) (by kernel_rfl) (by kernel_rfl) (fun _ _ _ h => h) (Or.inl ⟨by rfl, ?_⟩) s0 ?_
            rotate_left
            · intro w hSw; first | (obtain ⟨s1, s2, s3, s4, s5, s6, s7, s8⟩ := hSw; go_simp; rfl) | (obtain ⟨s1, s2, s3, s4, s5, s6, s7⟩ := hSw; go_simp; rfl) | (obtain ⟨s1, s2, s3⟩ := hSw; go_simp; rfl) | (obtain ⟨s1, s2⟩ := hSw; go_simp; rfl) | (have s1 := hSw; go_simp; rfl)
            go_simp
            refine wpAnyLate_pure (i := 3) (v := ?_) rfl (by kernel_rfl) (by kernel_rfl) (by kernel_rfl) (fun _ _ _ h => h) (Or.inl ⟨by rfl, ?_⟩) s0 ?_
            rotate_left
            · intro w hSw; first | (obtain ⟨s1, s2, s3, s4, s5, s6, s7, s8⟩ := hSw; go_simp; rfl) | (obtain ⟨s1, s2, s3, s4, s5, s6, s7⟩ := hSw; go_simp; rfl) | (obtain ⟨s1, s2, s3⟩ := hSw; go_simp; rfl) | (obtain ⟨s1, s2⟩ := hSw; go_simp; rfl) | (have s1 := hSw; go_simp; rfl)
            go_simp
            refine wpAnyLate_pure (i := 4) (v := ?_) rfl (by kernel_rfl) (by kernel_rfl) (by kernel_rfl) (fun _ _ _ h => h) (Or.inl ⟨by rfl, ?_⟩) s0 ?_
            rotate_left
            · intro w hSw; first | (obtain ⟨s1, s2, s3, s4, s5, s6, s7, s8⟩ := hSw; go_simp; rfl) | (obtain ⟨s1, s2, s3, s4, s5, s6, s7⟩ := hSw; go_simp; rfl) | (obtain ⟨s1, s2, s3⟩ := hSw; go_simp; rfl) | (obtain ⟨s1, s2⟩ := hSw; go_simp; rfl) | (have s1 := hSw; go_simp; rfl)
            go_simp
            refine wpAnyLate_take (i := 5) (v := ?_) rfl (by kernel_rfl) (by kernel_rfl) (by kernel_rfl) (fun _ _ _ h => h) (Or.inl ⟨by rfl, ?_⟩) s0 ?_
            rotate_left
            · intro w hSw; first | (obtain ⟨s1, s2, s3, s4, s5, s6, s7, s8⟩ := hSw; go_simp; rfl) | (obtain ⟨s1, s2, s3, s4, s5, s6, s7⟩ := hSw; go_simp; rfl) | (obtain ⟨s1, s2, s3⟩ := hSw; go_simp; rfl) | (obtain ⟨s1, s2⟩ := hSw; go_simp; rfl) | (have s1 := hSw; go_simp; rfl)
            go_simp
            refine wpAnyLate_pure (i := 6) (v := ?_) rfl (by kernel_rfl) (by kernel_rfl) (by kernel_rfl) (fun _ _ _ h => h) (Or.inl ⟨by rfl, ?_⟩) s0 ?_
            rotate_left
            · intro w hSw; first | (obtain ⟨s1, s2, s3, s4, s5, s6, s7, s8⟩ := hSw; go_simp; rfl) | (obtain ⟨s1, s2, s3, s4, s5, s6, s7⟩ := hSw; go_simp; rfl) | (obtain ⟨s1, s2, s3⟩ := hSw; go_simp; rfl) | (obtain ⟨s1, s2⟩ := hSw; go_simp; rfl) | (have s1 := hSw; go_simp; rfl)
            go_simp
            refine wpAnyLate_pure (i := 7) (v := ?_) rfl (by kernel_rfl) (by kernel_rfl) (by kernel_rfl) (fun _ _ _ h => h) (Or.inl ⟨by rfl, ?_⟩) s0 ?_
            rotate_left
            · intro w hSw; first | (obtain ⟨s1, s2, s3, s4, s5, s6, s7, s8⟩ := hSw; go_simp; rfl) | (obtain ⟨s1, s2, s3, s4, s5, s6, s7⟩ := hSw; go_simp; rfl) | (obtain ⟨s1, s2, s3⟩ := hSw; go_simp; rfl) | (obtain ⟨s1, s2⟩ := hSw; go_simp; rfl) | (have s1 := hSw; go_simp; rfl)
            go_simp
            refine wpAnyLate_pure (i := 8) (v := ?_) rfl (by kernel_rfl) (by kernel_rfl) (by kernel_rfl) (fun _ _ _ h => h) (Or.inl ⟨by rfl, ?_⟩) s0 ?_
            rotate_left
            · intro w hSw; first | (obtain ⟨s1, s2, s3, s4, s5, s6, s7, s8⟩ := hSw; go_simp; rfl) | (obtain ⟨s1, s2, s3, s4, s5, s6, s7⟩ := hSw; go_simp; rfl) | (obtain ⟨s1, s2, s3⟩ := hSw; go_simp; rfl) | (obtain ⟨s1, s2⟩ := hSw; go_simp; rfl) | (have s1 := hSw; go_simp; rfl)
            go_simp
            refine wpAnyLate_take (i := 9) (v := ?_) rfl (by kernel_rfl) (by kernel_rfl) (by kernel_rfl) (fun _ _ _ h => h) (Or.inl ⟨by rfl, ?_⟩) s0 ?_
            rotate_left
            · intro w hSw; first | (obtain ⟨s1, s2, s3, s4, s5, s6, s7, s8⟩ := hSw; go_simp; rfl) | (obtain ⟨s1, s2, s3, s4, s5, s6, s7⟩ := hSw; go_simp; rfl) | (obtain ⟨s1, s2, s3⟩ := hSw; go_simp; rfl) | (obtain ⟨s1, s2⟩ := hSw; go_simp; rfl) | (have s1 := hSw; go_simp; rfl)
            go_simp
            refine wpAnyLate_pure (i := 12) (v := ?_) rfl (by kernel_rfl) (by kernel_rfl) (by kernel_rfl) (fun _ _ _ h => h) (Or.inl ⟨by rfl, ?_⟩) s0 ?_
            rotate_left
            · intro w hSw; first | (obtain ⟨s1, s2, s3, s4, s5, s6, s7, s8⟩ := hSw; go_simp; rfl) | (obtain ⟨s1, s2, s3, s4, s5, s6, s7⟩ := hSw; go_simp; rfl) | (obtain ⟨s1, s2, s3⟩ := hSw; go_simp; rfl) | (obtain ⟨s1, s2⟩ := hSw; go_simp; rfl) | (have s1 := hSw; go_simp; rfl)
            go_simp
            refine wpAnyLate_pure (i := 13) (v := ?_) rfl (by kernel_rfl) (by kernel_rfl) (by kernel_rfl) (fun _ _ _ h => h) (Or.inl ⟨by rfl, ?_⟩) s0 ?_
            rotate_left
            · intro w hSw; first | (obtain ⟨s1, s2, s3, s4, s5, s6, s7, s8⟩ := hSw; go_simp; rfl) | (obtain ⟨s1, s2, s3, s4, s5, s6, s7⟩ := hSw; go_simp; rfl) | (obtain ⟨s1, s2, s3⟩ := hSw; go_simp; rfl) | (obtain ⟨s1, s2⟩ := hSw; go_simp; rfl) | (have s1 := hSw; go_simp; rfl)
            go_simp
            refine wpAnyLate_pure (i := 14) (v := ?_) rfl (by kernel_rfl) (by kernel_rfl) (by kernel_rfl) (fun _ _ _ h => h) (Or.inl ⟨by rfl, ?_⟩) s0 ?_
            rotate_left
            · intro w hSw; first | (obtain ⟨s1, s2, s3, s4, s5, s6, s7, s8⟩ := hSw; go_simp; rfl) | (obtain ⟨s1, s2, s3, s4, s5, s6, s7⟩ := hSw; go_simp; rfl) | (obtain ⟨s1, s2, s3⟩ := hSw; go_simp; rfl) | (obtain ⟨s1, s2⟩ := hSw; go_simp; rfl) | (have s1 := hSw; go_simp; rfl)
            go_simp
            refine wpAnyLate_take (i := 15) (v := ?_) rfl (by kernel_rfl) (by kernel_rfl) (by kernel_rfl) (fun _ _ _ h => h) (Or.inl ⟨by rfl, ?_⟩) s0 ?_
            rotate_left
            · intro w hSw; first | (obtain ⟨s1, s2, s3, s4, s5, s6, s7, s8⟩ := hSw; go_simp; rfl) | (obtain ⟨s1, s2, s3, s4, s5, s6, s7⟩ := hSw; go_simp; rfl) | (obtain ⟨s1, s2, s3⟩ := hSw; go_simp; rfl) | (obtain ⟨s1, s2⟩ := hSw; go_simp; rfl) | (have s1 := hSw; go_simp; rfl)
            go_simp
            refine wpAnyLate_pure (i := 16) (v := ?_) rfl (by kernel_rfl) (by kernel_rfl) (by kernel_rfl) (fun _ _ _ h => h) (Or.inl ⟨by rfl, ?_⟩) s0 ?_
            rotate_left
            · intro w hSw; first | (obtain ⟨s1, s2, s3, s4, s5, s6, s7, s8⟩ := hSw; go_simp; rfl) | (obtain ⟨s1, s2, s3, s4, s5, s6, s7⟩ := hSw; go_simp; rfl) | (obtain ⟨s1, s2, s3⟩ := hSw; go_simp; rfl) | (obtain ⟨s1, s2⟩ := hSw; go_simp; rfl) | (have s1 := hSw; go_simp; rfl)
            go_simp
            refine wpAnyLate_pure (i := 17) (v := ?_) rfl (by kernel_rfl) (by kernel_rfl) (by kernel_rfl) (fun _ _ _ h => h) (Or.inl ⟨by rfl, ?_⟩) s0 ?_
            rotate_left
            · intro w hSw; first | (obtain ⟨s1, s2, s3, s4, s5, s6, s7, s8⟩ := hSw; go_simp; rfl) | (obtain ⟨s1, s2, s3, s4, s5, s6, s7⟩ := hSw; go_simp; rfl) | (obtain ⟨s1, s2, s3⟩ := hSw; go_simp; rfl) | (obtain ⟨s1, s2⟩ := hSw; go_simp; rfl) | (have s1 := hSw; go_simp; rfl)
            go_simp
            refine wpAnyLate_pure (i := 18) (v := ?_) rfl (by kernel_rfl) (by kernel_rfl) (by kernel_rfl) (fun _ _ _ h => h) (Or.inl ⟨by rfl, ?_⟩) s0 ?_
            rotate_left
            · intro w hSw; first | (obtain ⟨s1, s2, s3, s4, s5, s6, s7, s8⟩ := hSw; go_simp; rfl) | (obtain ⟨s1, s2, s3, s4, s5, s6, s7⟩ := hSw; go_simp; rfl) | (obtain ⟨s1, s2, s3⟩ := hSw; go_simp; rfl) | (obtain ⟨s1, s2⟩ := hSw; go_simp; rfl) | (have s1 := hSw; go_simp; rfl)
            go_simp
            refine wpAnyLate_take (i := 19) (v := ?_) rfl (by kernel_rfl) (by kernel_rfl) (by kernel_rfl) (fun _ _ _ h => h) (Or.inl ⟨by rfl, ?_⟩) s0 ?_
            rotate_left
            · intro w hSw; first | (obtain ⟨s1, s2, s3, s4, s5, s6, s7, s8⟩ := hSw; go_simp; rfl) | (obtain ⟨s1, s2, s3, s4, s5, s6, s7⟩ := hSw; go_simp; rfl) | (obtain ⟨s1, s2, s3⟩ := hSw; go_simp; rfl) | (obtain ⟨s1, s2⟩ := hSw; go_simp; rfl) | (have s1 := hSw; go_simp; rfl)
            go_simp
            refine lateEither (i := 10) (j := 20) (by kernel_rfl) rfl rfl (by rfl) (by rfl) (fun K hK => ?_) (fun K hK => ?_)
            · go_simp
              obtain ⟨wa, hNwa⟩ : ∃ wa, w0.alloc (.cells #[.int .i64 x] 3) = wa := ⟨_, rfl⟩
              rw [hNwa]
              have fwa : New w0 wa := by rw [← hNwa]; exact (Fr.refl _ _).alloc _
              have ha1 : Arr wa w0.heap.size [iV x] := by rw [← hNwa]; exact Arr.new _ _ _
              obtain ⟨sb1, hsb1⟩ : ∃ sb, w0.heap.size = sb := ⟨_, rfl⟩
              rw [hsb1] at ha1 ⊢
              have hs1 : w0.heap.size ≤ sb1 := by rw [← hsb1]; exact (Nat.le_refl _)
              have HA1 := Lib.hid ha1
              have HFRwa := Lib.hid (HFR.out.new fwa)
              have HGRwa := Lib.hid (HGR.out.new fwa)
              have HNNwa := Lib.hid (HN0.out.trans fwa)
              have hzwa : w0.heap.size ≤ wa.heap.size := Nat.le_trans (Nat.le_refl _) fwa.size
              have HO1wa := Lib.hid (own_keptV HO1.out fwa (fun _ _ => id))
              have HO2wa := Lib.hid (own_keptV HO2.out fwa (fun _ _ => id))
              have swa := HT.out wa HFRwa.out HGRwa.out HNNwa.out
              refine hK.out _ _ (fun _ => swa) ?_
              clear hK K hNwa fwa ha1 hsb1
              refine lateEither (i := 11) (j := 20) (by kernel_rfl) rfl rfl (by rfl) (by rfl) (fun K hK => ?_) (fun K hK => ?_)
              · refine wp_append_where (.tmp 61) (.tmp 66) 24 rfl 0 3 i0 _ 1 8 Tryd.underlying24 hi hz0 hz1 hz2 rfl (by decide) _ q _ rfl HO1wa.out ⟨sb1, 0, none⟩ 1 1 [iV x] rfl rfl (fun j u hj => HA1.out.add j u hj) (by simp [iV, Value.oneCell']) (by unfold maxLen; omega) (by omega) (Nat.zero_le _) ?_
                intro v1 wc hown hgrow hwhere
                have fwc : Fr (fun j => (Value.slice a1 q c1).ownBlock = some j) wa wc := (Fr.refl _ _).grown (show wa.grownBy wc ((Value.slice a1 q c1).ownBlock) from hgrow) (fun j hj _ => hj)
                rw [← HTK.out] at hown
                have HV1wc := Lib.hid hown
                have HW1 := Lib.hid (show ∀ j, v1.ownBlock = some j → (Value.slice a1 q c1).ownBlock = some j ∨ w0.heap.size ≤ j from fun j hj => (hwhere j hj).imp_right (fun e => Nat.le_trans hzwa e))
                have HFRwc := Lib.hid (HFRwa.out.keep fwc (fun e => HAPV.out fb e rfl))
                have HGRwc := Lib.hid (HGRwa.out.keep fwc (fun e => HFS.out.vg e))
                have HNNwc := Lib.hid (HNNwa.out.then fwc (fun i hi e => by have := HV.out i e; omega))
                have hzwc : w0.heap.size ≤ wc.heap.size := Nat.le_trans hzwa fwc.size
                have HO2wc := Lib.hid (own_keptV HO2wa.out fwc (fun j hj e => HFS.out.vu j e hj))
                have swc := HT.out wc HFRwc.out HGRwc.out HNNwc.out
                refine hK.out _ _ (fun _ => swc) ?_
                clear hK K hown hgrow hwhere fwc
                refine lateOne (i := 20) (by kernel_rfl) rfl (by rfl) (fun K hK => ?_)
                go_simp
                obtain ⟨wb, hNwb⟩ : ∃ wb, wc.alloc (.cells #[.int .i64 x] 3) = wb := ⟨_, rfl⟩
                rw [hNwb]
                have fwb : New wc wb := by rw [← hNwb]; exact (Fr.refl _ _).alloc _
                have ha2 : Arr wb wc.heap.size [iV x] := by rw [← hNwb]; exact Arr.new _ _ _
                obtain ⟨sb2, hsb2⟩ : ∃ sb, wc.heap.size = sb := ⟨_, rfl⟩
                rw [hsb2] at ha2 ⊢
                have hs2 : w0.heap.size ≤ sb2 := by rw [← hsb2]; exact hzwc
                have HA2 := Lib.hid ha2
                have HFRwb := Lib.hid (HFRwc.out.new fwb)
                have HGRwb := Lib.hid (HGRwc.out.new fwb)
                have HNNwb := Lib.hid (HNNwc.out.trans fwb)
                have hzwb : w0.heap.size ≤ wb.heap.size := Nat.le_trans hzwc fwb.size
                have HV1wb := Lib.hid (own_keptV HV1wc.out fwb (fun _ _ => id))
                have HO2wb := Lib.hid (own_keptV HO2wc.out fwb (fun _ _ => id))
                have swb := HT.out wb HFRwb.out HGRwb.out HNNwb.out
                refine hK.out _ _ (fun _ => swb) ?_
                clear hK K hNwb fwb ha2 hsb2
                refine lateOne (i := 21) (by kernel_rfl) rfl (by rfl) (fun K hK => ?_)
                refine wp_append_where (.tmp 71) (.tmp 76) 24 rfl 0 3 i0 _ 1 8 Tryd.underlying24 hi hz0 hz1 hz2 rfl (by decide) _ q _ rfl HO2wb.out ⟨sb2, 0, none⟩ 1 1 [iV x] rfl rfl (fun j u hj => HA2.out.add j u hj) (by simp [iV, Value.oneCell']) (by unfold maxLen; omega) (by omega) (Nat.zero_le _) ?_
                intro v2 wd hown hgrow hwhere
                have fwd : Fr (fun j => (Value.slice a2 q c2).ownBlock = some j) wb wd := (Fr.refl _ _).grown (show wb.grownBy wd ((Value.slice a2 q c2).ownBlock) from hgrow) (fun j hj _ => hj)
                rw [← HTK.out] at hown
                have HV2wd := Lib.hid hown
                have HW2 := Lib.hid (show ∀ j, v2.ownBlock = some j → (Value.slice a2 q c2).ownBlock = some j ∨ (w0.heap.size ≤ j ∧ ∀ i, v1.ownBlock = some i → i ≠ j) from fun j hj => (hwhere j hj).imp_right (fun e => ⟨Nat.le_trans hzwb e, fun i hi => by have := (HV1wb.out.lt i hi).2; omega⟩))
                have HFRwd := Lib.hid (HFRwb.out.keep fwd (fun e => HFS.out.uf e))
                have HGRwd := Lib.hid (HGRwb.out.keep fwd (fun e => HAPU.out (fb + 1) e rfl))
                have HNNwd := Lib.hid (HNNwb.out.then fwd (fun i hi e => by have := HU.out i e; omega))
                have hzwd : w0.heap.size ≤ wd.heap.size := Nat.le_trans hzwb fwd.size
                have HV1wd := Lib.hid (own_keptV HV1wb.out fwd (fun j hj e => by
                  rcases HW1.out j hj with h | h
                  · exact HFS.out.vu j h e
                  · have := hult j e; omega))
                have swd := HT.out wd HFRwd.out HGRwd.out HNNwd.out
                refine hK.out _ _ (fun _ => swd) ?_
                clear hK K hown hgrow hwhere fwd
                refine lateOne (i := 22) (by kernel_rfl) rfl (by rfl) (fun K hK => ?_)
                go_simp
                refine hK.out _ _ (fun _ => swd) ?_
                clear hK K
                refine lateOne (i := 23) (by kernel_rfl) rfl (by rfl) (fun K hK => ?_)
                go_simp
                refine hK.out _ _ (fun _ => swd) ?_
                clear hK K
                obtain ⟨b1, d1, rfl, _⟩ := owned_form HV1wd.out
                obtain ⟨b2, d2, rfl, _⟩ := owned_form HV2wd.out
                have hfin := frames_end HFRwd.out HGRwd.out HL2.out HV1wd.out HV2wd.out HW1.out HW2.out HAPV.out HAPU.out HFS.out.vg HFS.out.uf HFS.out.vu hvlt hult hffl HNNwd.out hwf HV.out HU.out HN0.out.size (by rw [HL2.out]; omega)
                have HFIN := Lib.hid hfin
                have y33 := swd.1
                have z33 := swd.2.1
                have yz := HFRwd.out.free
                have zz := HGRwd.out.free
                clear hfin swd s0
                refine lateLast (i := 24) (by kernel_rfl) rfl (by kernel_rfl) (by rfl) (fun K hK => ?_)
                go_simp
                refine hK.out _ _ ?_
                clear hK K y33
                refine lateLast (i := 25) (by kernel_rfl) rfl (by kernel_rfl) (by rfl) (fun K hK => ?_)
                go_simp
                refine hK.out _ _ ?_
                clear hK K
                refine lateLast (i := 26) (by kernel_rfl) rfl (by kernel_rfl) (by rfl) (fun K hK => ?_)
                go_simp
                refine hK.out _ _ ?_
                clear hK K
                refine lateLast (i := 27) (by kernel_rfl) rfl (by kernel_rfl) (by rfl) (fun K hK => ?_)
                have z33' : (wd.setCell ⟨fb, 33, none⟩ (.slice b1 (q + 1) d1)).cell? ⟨fb + 1, 33, none⟩ = some (.slice a2 q c2) := by rw [cell_set_ne _ (.inl (by simp))]; exact z33
                have zz' : ∀ i, (wd.setCell ⟨fb, 33, none⟩ (.slice b1 (q + 1) d1)).frozen? ⟨fb + 1, i, none⟩ = false := fun i => by rw [World.frozen?_setCell]; exact zz i
                go_simp
                refine hK.out _ _ ?_
                clear hK K z33 z33' zz zz' yz
                refine lateDone (by kernel_rfl) ?_ _
                go_wp2
                go_roundw
                case rel => exact ⟨q + 1, _, _, by omega, by omega, by go_num, HFIN.out.1, HFIN.out.2.1, HFIN.out.2.2.1, HFIN.out.2.2.2⟩
                case measure => simp [intOf]; omega
              · go_simp
                obtain ⟨wb, hNwb⟩ : ∃ wb, wa.alloc (.cells #[.int .i64 x] 3) = wb := ⟨_, rfl⟩
                rw [hNwb]
                have fwb : New wa wb := by rw [← hNwb]; exact (Fr.refl _ _).alloc _
                have ha2 : Arr wb wa.heap.size [iV x] := by rw [← hNwb]; exact Arr.new _ _ _
                obtain ⟨sb2, hsb2⟩ : ∃ sb, wa.heap.size = sb := ⟨_, rfl⟩
                rw [hsb2] at ha2 ⊢
                have hs2 : w0.heap.size ≤ sb2 := by rw [← hsb2]; exact hzwa
                have HA2 := Lib.hid ha2
                have HFRwb := Lib.hid (HFRwa.out.new fwb)
                have HGRwb := Lib.hid (HGRwa.out.new fwb)
                have HNNwb := Lib.hid (HNNwa.out.trans fwb)
                have hzwb : w0.heap.size ≤ wb.heap.size := Nat.le_trans hzwa fwb.size
                have HA1wb := Lib.hid (HA1.out.keep fwb id)
                have HO1wb := Lib.hid (own_keptV HO1wa.out fwb (fun _ _ => id))
                have HO2wb := Lib.hid (own_keptV HO2wa.out fwb (fun _ _ => id))
                have swb := HT.out wb HFRwb.out HGRwb.out HNNwb.out
                refine hK.out _ _ (fun _ => swb) ?_
                clear hK K hNwb fwb ha2 hsb2
                refine lateOne (i := 11) (by kernel_rfl) rfl (by rfl) (fun K hK => ?_)
                refine wp_append_where (.tmp 61) (.tmp 66) 24 rfl 0 3 i0 _ 1 8 Tryd.underlying24 hi hz0 hz1 hz2 rfl (by decide) _ q _ rfl HO1wb.out ⟨sb1, 0, none⟩ 1 1 [iV x] rfl rfl (fun j u hj => HA1wb.out.add j u hj) (by simp [iV, Value.oneCell']) (by unfold maxLen; omega) (by omega) (Nat.zero_le _) ?_
                intro v1 wc hown hgrow hwhere
                have fwc : Fr (fun j => (Value.slice a1 q c1).ownBlock = some j) wb wc := (Fr.refl _ _).grown (show wb.grownBy wc ((Value.slice a1 q c1).ownBlock) from hgrow) (fun j hj _ => hj)
                rw [← HTK.out] at hown
                have HV1wc := Lib.hid hown
                have HW1 := Lib.hid (show ∀ j, v1.ownBlock = some j → (Value.slice a1 q c1).ownBlock = some j ∨ w0.heap.size ≤ j from fun j hj => (hwhere j hj).imp_right (fun e => Nat.le_trans hzwb e))
                have HFRwc := Lib.hid (HFRwb.out.keep fwc (fun e => HAPV.out fb e rfl))
                have HGRwc := Lib.hid (HGRwb.out.keep fwc (fun e => HFS.out.vg e))
                have HNNwc := Lib.hid (HNNwb.out.then fwc (fun i hi e => by have := HV.out i e; omega))
                have hzwc : w0.heap.size ≤ wc.heap.size := Nat.le_trans hzwb fwc.size
                have HA2wc := Lib.hid (HA2.out.keep fwc (fun e => by have := hvlt _ e; omega))
                have HO2wc := Lib.hid (own_keptV HO2wb.out fwc (fun j hj e => HFS.out.vu j e hj))
                have swc := HT.out wc HFRwc.out HGRwc.out HNNwc.out
                refine hK.out _ _ (fun _ => swc) ?_
                clear hK K hown hgrow hwhere fwc
                refine lateOne (i := 21) (by kernel_rfl) rfl (by rfl) (fun K hK => ?_)
                refine wp_append_where (.tmp 71) (.tmp 76) 24 rfl 0 3 i0 _ 1 8 Tryd.underlying24 hi hz0 hz1 hz2 rfl (by decide) _ q _ rfl HO2wc.out ⟨sb2, 0, none⟩ 1 1 [iV x] rfl rfl (fun j u hj => HA2wc.out.add j u hj) (by simp [iV, Value.oneCell']) (by unfold maxLen; omega) (by omega) (Nat.zero_le _) ?_
                intro v2 wd hown hgrow hwhere
                have fwd : Fr (fun j => (Value.slice a2 q c2).ownBlock = some j) wc wd := (Fr.refl _ _).grown (show wc.grownBy wd ((Value.slice a2 q c2).ownBlock) from hgrow) (fun j hj _ => hj)
                rw [← HTK.out] at hown
                have HV2wd := Lib.hid hown
                have HW2 := Lib.hid (show ∀ j, v2.ownBlock = some j → (Value.slice a2 q c2).ownBlock = some j ∨ (w0.heap.size ≤ j ∧ ∀ i, v1.ownBlock = some i → i ≠ j) from fun j hj => (hwhere j hj).imp_right (fun e => ⟨Nat.le_trans hzwc e, fun i hi => by have := (HV1wc.out.lt i hi).2; omega⟩))
                have HFRwd := Lib.hid (HFRwc.out.keep fwd (fun e => HFS.out.uf e))
                have HGRwd := Lib.hid (HGRwc.out.keep fwd (fun e => HAPU.out (fb + 1) e rfl))
                have HNNwd := Lib.hid (HNNwc.out.then fwd (fun i hi e => by have := HU.out i e; omega))
                have hzwd : w0.heap.size ≤ wd.heap.size := Nat.le_trans hzwc fwd.size
                have HV1wd := Lib.hid (own_keptV HV1wc.out fwd (fun j hj e => by
                  rcases HW1.out j hj with h | h
                  · exact HFS.out.vu j h e
                  · have := hult j e; omega))
                have swd := HT.out wd HFRwd.out HGRwd.out HNNwd.out
                refine hK.out _ _ (fun _ => swd) ?_
                clear hK K hown hgrow hwhere fwd
                refine lateOne (i := 22) (by kernel_rfl) rfl (by rfl) (fun K hK => ?_)
                go_simp
                refine hK.out _ _ (fun _ => swd) ?_
                clear hK K
                refine lateOne (i := 23) (by kernel_rfl) rfl (by rfl) (fun K hK => ?_)
                go_simp
                refine hK.out _ _ (fun _ => swd) ?_
                clear hK K
                obtain ⟨b1, d1, rfl, _⟩ := owned_form HV1wd.out
                obtain ⟨b2, d2, rfl, _⟩ := owned_form HV2wd.out
                have hfin := frames_end HFRwd.out HGRwd.out HL2.out HV1wd.out HV2wd.out HW1.out HW2.out HAPV.out HAPU.out HFS.out.vg HFS.out.uf HFS.out.vu hvlt hult hffl HNNwd.out hwf HV.out HU.out HN0.out.size (by rw [HL2.out]; omega)
                have HFIN := Lib.hid hfin
                have y33 := swd.1
                have z33 := swd.2.1
                have yz := HFRwd.out.free
                have zz := HGRwd.out.free
                clear hfin swd s0
                refine lateLast (i := 24) (by kernel_rfl) rfl (by kernel_rfl) (by rfl) (fun K hK => ?_)
                go_simp
                refine hK.out _ _ ?_
                clear hK K y33
                refine lateLast (i := 25) (by kernel_rfl) rfl (by kernel_rfl) (by rfl) (fun K hK => ?_)
                go_simp
                refine hK.out _ _ ?_
                clear hK K
                refine lateLast (i := 26) (by kernel_rfl) rfl (by kernel_rfl) (by rfl) (fun K hK => ?_)
                go_simp
                refine hK.out _ _ ?_
                clear hK K
                refine lateLast (i := 27) (by kernel_rfl) rfl (by kernel_rfl) (by rfl) (fun K hK => ?_)
                have z33' : (wd.setCell ⟨fb, 33, none⟩ (.slice b1 (q + 1) d1)).cell? ⟨fb + 1, 33, none⟩ = some (.slice a2 q c2) := by rw [cell_set_ne _ (.inl (by simp))]; exact z33
                have zz' : ∀ i, (wd.setCell ⟨fb, 33, none⟩ (.slice b1 (q + 1) d1)).frozen? ⟨fb + 1, i, none⟩ = false := fun i => by rw [World.frozen?_setCell]; exact zz i
                go_simp
                refine hK.out _ _ ?_
                clear hK K z33 z33' zz zz' yz
                refine lateDone (by kernel_rfl) ?_ _
                go_wp2
                go_roundw
                case rel => exact ⟨q + 1, _, _, by omega, by omega, by go_num, HFIN.out.1, HFIN.out.2.1, HFIN.out.2.2.1, HFIN.out.2.2.2⟩
                case measure => simp [intOf]; omega
            · go_simp
              obtain ⟨wb, hNwb⟩ : ∃ wb, w0.alloc (.cells #[.int .i64 x] 3) = wb := ⟨_, rfl⟩
              rw [hNwb]
              have fwb : New w0 wb := by rw [← hNwb]; exact (Fr.refl _ _).alloc _
              have ha2 : Arr wb w0.heap.size [iV x] := by rw [← hNwb]; exact Arr.new _ _ _
              obtain ⟨sb2, hsb2⟩ : ∃ sb, w0.heap.size = sb := ⟨_, rfl⟩
              rw [hsb2] at ha2 ⊢
              have hs2 : w0.heap.size ≤ sb2 := by rw [← hsb2]; exact (Nat.le_refl _)
              have HA2 := Lib.hid ha2
              have HFRwb := Lib.hid (HFR.out.new fwb)
              have HGRwb := Lib.hid (HGR.out.new fwb)
              have HNNwb := Lib.hid (HN0.out.trans fwb)
              have hzwb : w0.heap.size ≤ wb.heap.size := Nat.le_trans (Nat.le_refl _) fwb.size
              have HO1wb := Lib.hid (own_keptV HO1.out fwb (fun _ _ => id))
              have HO2wb := Lib.hid (own_keptV HO2.out fwb (fun _ _ => id))
              have swb := HT.out wb HFRwb.out HGRwb.out HNNwb.out
              refine hK.out _ _ (fun _ => swb) ?_
              clear hK K hNwb fwb ha2 hsb2
              refine lateOne (i := 10) (by kernel_rfl) rfl (by rfl) (fun K hK => ?_)
              go_simp
              obtain ⟨wa, hNwa⟩ : ∃ wa, wb.alloc (.cells #[.int .i64 x] 3) = wa := ⟨_, rfl⟩
              rw [hNwa]
              have fwa : New wb wa := by rw [← hNwa]; exact (Fr.refl _ _).alloc _
              have ha1 : Arr wa wb.heap.size [iV x] := by rw [← hNwa]; exact Arr.new _ _ _
              obtain ⟨sb1, hsb1⟩ : ∃ sb, wb.heap.size = sb := ⟨_, rfl⟩
              rw [hsb1] at ha1 ⊢
              have hs1 : w0.heap.size ≤ sb1 := by rw [← hsb1]; exact hzwb
              have HA1 := Lib.hid ha1
              have HFRwa := Lib.hid (HFRwb.out.new fwa)
              have HGRwa := Lib.hid (HGRwb.out.new fwa)
              have HNNwa := Lib.hid (HNNwb.out.trans fwa)
              have hzwa : w0.heap.size ≤ wa.heap.size := Nat.le_trans hzwb fwa.size
              have HA2wa := Lib.hid (HA2.out.keep fwa id)
              have HO1wa := Lib.hid (own_keptV HO1wb.out fwa (fun _ _ => id))
              have HO2wa := Lib.hid (own_keptV HO2wb.out fwa (fun _ _ => id))
              have swa := HT.out wa HFRwa.out HGRwa.out HNNwa.out
              refine hK.out _ _ (fun _ => swa) ?_
              clear hK K hNwa fwa ha1 hsb1
              refine lateOne (i := 11) (by kernel_rfl) rfl (by rfl) (fun K hK => ?_)
              refine wp_append_where (.tmp 61) (.tmp 66) 24 rfl 0 3 i0 _ 1 8 Tryd.underlying24 hi hz0 hz1 hz2 rfl (by decide) _ q _ rfl HO1wa.out ⟨sb1, 0, none⟩ 1 1 [iV x] rfl rfl (fun j u hj => HA1.out.add j u hj) (by simp [iV, Value.oneCell']) (by unfold maxLen; omega) (by omega) (Nat.zero_le _) ?_
              intro v1 wc hown hgrow hwhere
              have fwc : Fr (fun j => (Value.slice a1 q c1).ownBlock = some j) wa wc := (Fr.refl _ _).grown (show wa.grownBy wc ((Value.slice a1 q c1).ownBlock) from hgrow) (fun j hj _ => hj)
              rw [← HTK.out] at hown
              have HV1wc := Lib.hid hown
              have HW1 := Lib.hid (show ∀ j, v1.ownBlock = some j → (Value.slice a1 q c1).ownBlock = some j ∨ w0.heap.size ≤ j from fun j hj => (hwhere j hj).imp_right (fun e => Nat.le_trans hzwa e))
              have HFRwc := Lib.hid (HFRwa.out.keep fwc (fun e => HAPV.out fb e rfl))
              have HGRwc := Lib.hid (HGRwa.out.keep fwc (fun e => HFS.out.vg e))
              have HNNwc := Lib.hid (HNNwa.out.then fwc (fun i hi e => by have := HV.out i e; omega))
              have hzwc : w0.heap.size ≤ wc.heap.size := Nat.le_trans hzwa fwc.size
              have HA2wc := Lib.hid (HA2wa.out.keep fwc (fun e => by have := hvlt _ e; omega))
              have HO2wc := Lib.hid (own_keptV HO2wa.out fwc (fun j hj e => HFS.out.vu j e hj))
              have swc := HT.out wc HFRwc.out HGRwc.out HNNwc.out
              refine hK.out _ _ (fun _ => swc) ?_
              clear hK K hown hgrow hwhere fwc
              refine lateOne (i := 21) (by kernel_rfl) rfl (by rfl) (fun K hK => ?_)
              refine wp_append_where (.tmp 71) (.tmp 76) 24 rfl 0 3 i0 _ 1 8 Tryd.underlying24 hi hz0 hz1 hz2 rfl (by decide) _ q _ rfl HO2wc.out ⟨sb2, 0, none⟩ 1 1 [iV x] rfl rfl (fun j u hj => HA2wc.out.add j u hj) (by simp [iV, Value.oneCell']) (by unfold maxLen; omega) (by omega) (Nat.zero_le _) ?_
              intro v2 wd hown hgrow hwhere
              have fwd : Fr (fun j => (Value.slice a2 q c2).ownBlock = some j) wc wd := (Fr.refl _ _).grown (show wc.grownBy wd ((Value.slice a2 q c2).ownBlock) from hgrow) (fun j hj _ => hj)
              rw [← HTK.out] at hown
              have HV2wd := Lib.hid hown
              have HW2 := Lib.hid (show ∀ j, v2.ownBlock = some j → (Value.slice a2 q c2).ownBlock = some j ∨ (w0.heap.size ≤ j ∧ ∀ i, v1.ownBlock = some i → i ≠ j) from fun j hj => (hwhere j hj).imp_right (fun e => ⟨Nat.le_trans hzwc e, fun i hi => by have := (HV1wc.out.lt i hi).2; omega⟩))
              have HFRwd := Lib.hid (HFRwc.out.keep fwd (fun e => HFS.out.uf e))
              have HGRwd := Lib.hid (HGRwc.out.keep fwd (fun e => HAPU.out (fb + 1) e rfl))
              have HNNwd := Lib.hid (HNNwc.out.then fwd (fun i hi e => by have := HU.out i e; omega))
              have hzwd : w0.heap.size ≤ wd.heap.size := Nat.le_trans hzwc fwd.size
              have HV1wd := Lib.hid (own_keptV HV1wc.out fwd (fun j hj e => by
                rcases HW1.out j hj with h | h
                · exact HFS.out.vu j h e
                · have := hult j e; omega))
              have swd := HT.out wd HFRwd.out HGRwd.out HNNwd.out
              refine hK.out _ _ (fun _ => swd) ?_
              clear hK K hown hgrow hwhere fwd
              refine lateOne (i := 22) (by kernel_rfl) rfl (by rfl) (fun K hK => ?_)
              go_simp
              refine hK.out _ _ (fun _ => swd) ?_
              clear hK K
              refine lateOne (i := 23) (by kernel_rfl) rfl (by rfl) (fun K hK => ?_)
              go_simp
              refine hK.out _ _ (fun _ => swd) ?_
              clear hK K
              obtain ⟨b1, d1, rfl, _⟩ := owned_form HV1wd.out
              obtain ⟨b2, d2, rfl, _⟩ := owned_form HV2wd.out
              have hfin := frames_end HFRwd.out HGRwd.out HL2.out HV1wd.out HV2wd.out HW1.out HW2.out HAPV.out HAPU.out HFS.out.vg HFS.out.uf HFS.out.vu hvlt hult hffl HNNwd.out hwf HV.out HU.out HN0.out.size (by rw [HL2.out]; omega)
              have HFIN := Lib.hid hfin
              have y33 := swd.1
              have z33 := swd.2.1
              have yz := HFRwd.out.free
              have zz := HGRwd.out.free
              clear hfin swd s0
              refine lateLast (i := 24) (by kernel_rfl) rfl (by kernel_rfl) (by rfl) (fun K hK => ?_)
              go_simp
              refine hK.out _ _ ?_
              clear hK K y33
              refine lateLast (i := 25) (by kernel_rfl) rfl (by kernel_rfl) (by rfl) (fun K hK => ?_)
              go_simp
              refine hK.out _ _ ?_
              clear hK K
              refine lateLast (i := 26) (by kernel_rfl) rfl (by kernel_rfl) (by rfl) (fun K hK => ?_)
              go_simp
              refine hK.out _ _ ?_
              clear hK K
              refine lateLast (i := 27) (by kernel_rfl) rfl (by kernel_rfl) (by rfl) (fun K hK => ?_)
              have z33' : (wd.setCell ⟨fb, 33, none⟩ (.slice b1 (q + 1) d1)).cell? ⟨fb + 1, 33, none⟩ = some (.slice a2 q c2) := by rw [cell_set_ne _ (.inl (by simp))]; exact z33
              have zz' : ∀ i, (wd.setCell ⟨fb, 33, none⟩ (.slice b1 (q + 1) d1)).frozen? ⟨fb + 1, i, none⟩ = false := fun i => by rw [World.frozen?_setCell]; exact zz i
              go_simp
              refine hK.out _ _ ?_
              clear hK K z33 z33' zz zz' yz
              refine lateDone (by kernel_rfl) ?_ _
              go_wp2
              go_roundw
              case rel => exact ⟨q + 1, _, _, by omega, by omega, by go_num, HFIN.out.1, HFIN.out.2.1, HFIN.out.2.2.1, HFIN.out.2.2.2⟩
              case measure => simp [intOf]; omega
          · have htk : ys.take q = ys.take 8 := by
              rcases (show q = 8 ∨ M ≤ q by omega) with rfl | h
              · rfl
              · rw [List.take_of_length_le (by rw [HM.out]; omega), List.take_of_length_le (by rw [HM.out]; omega)]
            have HFS1 := Lib.hid (show Fms wr fb (fb + 1) v u ⟨pc, rs, ys.take 8⟩ by rw [← htk]; exact HFS.out)
            rcases (show (q < M ∧ ¬ q < 8) ∨ ¬ q < M by omega) with ⟨h7, h8⟩ | h7
            all_goals
              clear HFS htk
              go_wp2_with fail
              go_ret2
              exact ⟨_, _, v, u, rfl, by omega, by omega, by rw [HRS.out]; exact HFS1.out, HV.out, HU.out, HN.out⟩

end Go.Proofs.YtngpcalgjaglmaaDoor
