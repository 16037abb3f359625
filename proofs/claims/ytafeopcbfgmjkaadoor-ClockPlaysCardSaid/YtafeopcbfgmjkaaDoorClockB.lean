/- A clock: arming, a tick. -/
import Derived.Test.YtafeopcbfgmjkaaDoorClockA
import Derived.Test.YtafeopcbfgmjkaaDoorNums
namespace Go.Proofs.YtafeopcbfgmjkaaDoor
open Go.RowKit Go.Maps

/-- The store of a key, at the operation itself. -/
theorem op_store_mapIs {P : Program} {w : World} {o : Oper} {a : Act} {K : Act → World → Prop} {Q : Exit → Act → World → Prop} (m x v : Operand) (t : TypeId) (hop : o.op = Op.mapUpdate t m x v) (k E : TypeId) (q : IntKind) (hk : P.underlying k = some (.int q)) (ht : P.underlying t = some (.map k E)) (b n : Nat) (f : Int → Option Value)
    (hm : a.eval m = .map (some b)) (h : MapIs P k q w b n f) (hn : n < maxLen) (xi : Int) (val : Value) (hx : a.eval x = .int q xi) (hv : a.eval v = val) (hw : (Lit.int q xi).wf = true)
    (hK : ∀ w', MapIs P k q w' b (if (f xi).isSome then n else n + 1) (fun y => if y = xi then some val else f y) → Fr (· = b) w w' → K (a.put o.dst undef) w') : o.wp P a w K Q := by
  obtain ⟨w', hrun, r1, r2⟩ := h.store hk ht hn val hw
  unfold Oper.wp
  simp [execOp, hop, hm, hx, hv, hrun, Result.andThen]
  exact hK w' r1 r2

set_option maxRecDepth 100000 in
set_option maxHeartbeats 4000000 in
theorem arm_ok (cb hb mb bm : Nat) (v : Value) (S : List Th) (last now u d : Nat) (w : World) (h : ClockRep w cb hb mb bm v S last now) (hu : 1 ≤ u) (hub : u < 18446744073709551616) (hd : d < 18446744073709551615) (hno : hasW S u = false) (hl : last < 10000) (hsl : S.length < 10000) :
    Calls Tryd.prog 6 #[.pointer (some ⟨cb, 0, none⟩), .int .u64 u, .int .u64 d] w fun e w' => e = .returned .nilIface ∧ ∃ v', ClockRep w' cb hb mb bm v' (ins ⟨d, u, last + 1⟩ S) (last + 1) now ∧ (∀ k, v'.ownBlock = some k → v.ownBlock = some k ∨ w.heap.size ≤ k) ∧ Fr (cOwn cb hb mb bm v) w w' := by
  have c1 := cell_of_block h.hd 1
  have c2 := cell_of_block h.hd 2
  have l1 := lt_of_block h.hd
  rw [show (#[Value.int .u64 now, .pointer (some ⟨hb, 0, none⟩), .map (some bm)] : Array Value)[1]? = some (.pointer (some ⟨hb, 0, none⟩)) from rfl] at c1
  rw [show (#[Value.int .u64 now, .pointer (some ⟨hb, 0, none⟩), .map (some bm)] : Array Value)[2]? = some (.map (some bm)) from rfl] at c2
  have hlook := h.map.look2 keyU Tryd.underlying57 (zeroA w) (wf_u64 hub)
  rw [byC_none hno] at hlook
  have t0 : ((u : Int) == 0) = false := by rw [beq_eq_false_iff_ne]; omega
  have t1 : ((d : Int) != 18446744073709551615) = true := by simp; omega
  have hap := h.apart
  have H := Lib.hid h
  have HAP := Lib.hid hap
  have HNO := Lib.hid hno
  clear h hap hno
  go_enter Tryd.func6, Tryd.ntmps6
  go_wp2_with fail
  have f0 : New w (w.alloc (.cells #[.int .i64 0, .int .u64 0] 64)).drew := ((Fr.refl _ _).alloc _).drew
  refine heldStart (fun W => W.cell? ⟨cb, 1, none⟩ = some (.pointer (some ⟨hb, 0, none⟩)) ∧ W.cell? ⟨cb, 2, none⟩ = some (.map (some bm))) (by kernel_rfl) ?_
  generalize (w.alloc (.cells #[.int .i64 0, .int .u64 0] 64)).drew = W0 at f0 ⊢
  have hS : (fun W : World => W.cell? ⟨cb, 1, none⟩ = some (.pointer (some ⟨hb, 0, none⟩)) ∧ W.cell? ⟨cb, 2, none⟩ = some (.map (some bm))) W0 := ⟨(f0.cell l1 id 1).trans c1, (f0.cell l1 id 2).trans c2⟩
  have h0 := H.out.new f0
  have HPU := Lib.hid (hput_any hb mb v S last d u W0 h0.heap (by omega) (by omega) (by omega) hub)
  have HM0 := Lib.hid h0.map
  have F0 := Lib.hid f0
  have HB0 := Lib.hid h0.hd
  clear c1 c2 hlook h0 f0
  refine wpAnyH_take (i := 0) (v := ?_) rfl (by kernel_rfl) (by kernel_rfl) (by kernel_rfl) (fun _ _ _ h => h) (Or.inl ⟨by rfl, ?_⟩) hS ?_
  rotate_left
  · intro w hSw; first | (obtain ⟨s1, s2, s3, s4, s5, s6, s7⟩ := hSw; go_simp; rfl) | (obtain ⟨s1, s2, s3⟩ := hSw; go_simp; rfl) | (obtain ⟨s1, s2⟩ := hSw; go_simp; rfl) | (have s1 := hSw; go_simp; rfl)
  go_simp
  refine wpAnyH_take (i := 1) (v := ?_) rfl (by kernel_rfl) (by kernel_rfl) (by kernel_rfl) (fun _ _ _ h => h) (Or.inl ⟨by rfl, ?_⟩) hS ?_
  rotate_left
  · intro w hSw; first | (obtain ⟨s1, s2, s3, s4, s5, s6, s7⟩ := hSw; go_simp; rfl) | (obtain ⟨s1, s2, s3⟩ := hSw; go_simp; rfl) | (obtain ⟨s1, s2⟩ := hSw; go_simp; rfl) | (have s1 := hSw; go_simp; rfl)
  go_simp
  refine wpAnyH_take (i := 2) (v := ?_) rfl (by kernel_rfl) (by kernel_rfl) (by kernel_rfl) (fun _ _ _ h => h) (Or.inl ⟨by rfl, ?_⟩) hS ?_
  rotate_left
  · intro w hSw; first | (obtain ⟨s1, s2, s3, s4, s5, s6, s7⟩ := hSw; go_simp; rfl) | (obtain ⟨s1, s2, s3⟩ := hSw; go_simp; rfl) | (obtain ⟨s1, s2⟩ := hSw; go_simp; rfl) | (have s1 := hSw; go_simp; rfl)
  go_simp
  refine wpAnyH_take (i := 3) (v := ?_) rfl (by kernel_rfl) (by kernel_rfl) (by kernel_rfl) (fun _ _ _ h => h) (Or.inl ⟨by rfl, ?_⟩) hS ?_
  rotate_left
  · intro w hSw; first | (obtain ⟨s1, s2, s3, s4, s5, s6, s7⟩ := hSw; go_simp; rfl) | (obtain ⟨s1, s2, s3⟩ := hSw; go_simp; rfl) | (obtain ⟨s1, s2⟩ := hSw; go_simp; rfl) | (have s1 := hSw; go_simp; rfl)
  go_simp
  refine wpAnyH_take (i := 4) (v := ?_) rfl (by kernel_rfl) (by kernel_rfl) (by kernel_rfl) (fun _ _ _ h => h) (Or.inl ⟨by rfl, ?_⟩) hS ?_
  rotate_left
  · intro w hSw; first | (obtain ⟨s1, s2, s3, s4, s5, s6, s7⟩ := hSw; go_simp; rfl) | (obtain ⟨s1, s2, s3⟩ := hSw; go_simp; rfl) | (obtain ⟨s1, s2⟩ := hSw; go_simp; rfl) | (have s1 := hSw; go_simp; rfl)
  go_simp
  refine wpAnyH_take (i := 5) (v := ?_) rfl (by kernel_rfl) (by kernel_rfl) (by kernel_rfl) (fun _ _ _ h => h) (Or.inl ⟨by rfl, ?_⟩) hS ?_
  rotate_left
  · intro w hSw; first | (obtain ⟨s1, s2, s3, s4, s5, s6, s7⟩ := hSw; go_simp; rfl) | (obtain ⟨s1, s2, s3⟩ := hSw; go_simp; rfl) | (obtain ⟨s1, s2⟩ := hSw; go_simp; rfl) | (have s1 := hSw; go_simp; rfl)
  go_simp
  refine wpAnyH_take (i := 6) (v := ?_) rfl (by kernel_rfl) (by kernel_rfl) (by kernel_rfl) (fun _ _ _ h => h) (Or.inl ⟨by rfl, ?_⟩) hS ?_
  rotate_left
  · intro w hSw; first | (obtain ⟨s1, s2, s3, s4, s5, s6, s7⟩ := hSw; go_simp; rfl) | (obtain ⟨s1, s2, s3⟩ := hSw; go_simp; rfl) | (obtain ⟨s1, s2⟩ := hSw; go_simp; rfl) | (have s1 := hSw; go_simp; rfl)
  go_simp
  refine wpAnyH_take (i := 7) (v := ?_) rfl (by kernel_rfl) (by kernel_rfl) (by kernel_rfl) (fun _ _ _ h => h) (Or.inl ⟨by rfl, ?_⟩) hS ?_
  rotate_left
  · intro w hSw; first | (obtain ⟨s1, s2, s3, s4, s5, s6, s7⟩ := hSw; go_simp; rfl) | (obtain ⟨s1, s2, s3⟩ := hSw; go_simp; rfl) | (obtain ⟨s1, s2⟩ := hSw; go_simp; rfl) | (have s1 := hSw; go_simp; rfl)
  go_simp
  refine wpAnyH_take (i := 8) (v := ?_) rfl (by kernel_rfl) (by kernel_rfl) (by kernel_rfl) (fun _ _ _ h => h) (Or.inl ⟨by rfl, ?_⟩) hS ?_
  rotate_left
  · intro w hSw; first | (obtain ⟨s1, s2, s3, s4, s5, s6, s7⟩ := hSw; go_simp; rfl) | (obtain ⟨s1, s2, s3⟩ := hSw; go_simp; rfl) | (obtain ⟨s1, s2⟩ := hSw; go_simp; rfl) | (have s1 := hSw; go_simp; rfl)
  go_simp
  refine wpAnyH_take (i := 9) (v := ?_) rfl (by kernel_rfl) (by kernel_rfl) (by kernel_rfl) (fun _ _ _ h => h) (Or.inl ⟨by rfl, ?_⟩) hS ?_
  rotate_left
  · intro w hSw; first | (obtain ⟨s1, s2, s3, s4, s5, s6, s7⟩ := hSw; go_simp; rfl) | (obtain ⟨s1, s2, s3⟩ := hSw; go_simp; rfl) | (obtain ⟨s1, s2⟩ := hSw; go_simp; rfl) | (have s1 := hSw; go_simp; rfl)
  go_simp
  refine wpAnyH_take (i := 10) (v := ?_) rfl (by kernel_rfl) (by kernel_rfl) (by kernel_rfl) (fun _ _ _ h => h) (Or.inl ⟨by rfl, ?_⟩) hS ?_
  rotate_left
  · intro w hSw; first | (obtain ⟨s1, s2, s3, s4, s5, s6, s7⟩ := hSw; go_simp; rfl) | (obtain ⟨s1, s2, s3⟩ := hSw; go_simp; rfl) | (obtain ⟨s1, s2⟩ := hSw; go_simp; rfl) | (have s1 := hSw; go_simp; rfl)
  go_simp
  refine wpAnyH_take (i := 12) (v := ?_) rfl (by kernel_rfl) (by kernel_rfl) (by kernel_rfl) (fun _ _ _ h => h) (Or.inl ⟨by rfl, ?_⟩) hS ?_
  rotate_left
  · intro w hSw; first | (obtain ⟨s1, s2, s3, s4, s5, s6, s7⟩ := hSw; go_simp; rfl) | (obtain ⟨s1, s2, s3⟩ := hSw; go_simp; rfl) | (obtain ⟨s1, s2⟩ := hSw; go_simp; rfl) | (have s1 := hSw; go_simp; rfl)
  go_simp
  refine heldOne (i := 11) (by kernel_rfl) rfl (by rfl) (fun K hK => ?_)
  go_simp
  refine HPU.out.mono ?_
  rintro e w2 ⟨rfl, v', hr2, ho2, hf2⟩
  have hb2 := hf2.block cb (lt_of_block HB0.out) (fun e => (HAP.out.1 cb e).1 rfl)
  have hb2' := hb2.trans HB0.out
  have hS2 : (fun W : World => W.cell? ⟨cb, 1, none⟩ = some (.pointer (some ⟨hb, 0, none⟩)) ∧ W.cell? ⟨cb, 2, none⟩ = some (.map (some bm))) w2 := ⟨cell_of_block hb2' 1, cell_of_block hb2' 2⟩
  have HR2 := Lib.hid hr2
  have HO2 := Lib.hid ho2
  have HF2 := Lib.hid hf2
  have HB2 := Lib.hid hb2'
  have HM2 := Lib.hid (HM0.out.keep hf2 (fun e => (HAP.out.1 bm e).2 rfl))
  refine hK.out _ _ hS2 ?_
  clear hK K hr2 ho2 hf2 hb2 hb2' hS
  refine wpAnyH_take (i := 13) (v := ?_) rfl (by kernel_rfl) (by kernel_rfl) (by kernel_rfl) (fun _ _ _ h => h) (Or.inl ⟨by rfl, ?_⟩) hS2 ?_
  rotate_left
  · intro w hSw; first | (obtain ⟨s1, s2, s3, s4, s5, s6, s7⟩ := hSw; go_simp; rfl) | (obtain ⟨s1, s2, s3⟩ := hSw; go_simp; rfl) | (obtain ⟨s1, s2⟩ := hSw; go_simp; rfl) | (have s1 := hSw; go_simp; rfl)
  go_simp
  refine heldOne (i := 14) (by kernel_rfl) rfl (by rfl) (fun K hK => ?_)
  refine op_store_mapIs _ _ _ 57 rfl 25 64 .u64 keyU Tryd.underlying57 bm S.length (byC S) rfl HM2.out (by unfold maxLen; omega) u (armV ⟨d, u, last + 1⟩) rfl rfl (wf_u64 hub) ?_
  intro w3 hmap3 hf3
  have hb3 := (hf3.block cb (lt_of_block HB2.out) (fun e => HAP.out.2 e.symm)).trans HB2.out
  have HR3 := Lib.hid (HR2.out.keep hf3 (fun k hk e => by
    subst e
    rcases hk with rfl | rfl | hk
    · exact (HAP.out.1 k (.inl rfl)).2 rfl
    · exact (HAP.out.1 k (.inr (.inl rfl))).2 rfl
    · rcases HO2.out k hk with h | h
      · exact (HAP.out.1 k (.inr (.inr h))).2 rfl
      · have := HM0.out.lt; omega))
  have HB3 := Lib.hid hb3
  have HM3 := Lib.hid hmap3
  have HF3 := Lib.hid hf3
  refine hK.out _ _ ⟨cell_of_block hb3 1, cell_of_block hb3 2⟩ ?_
  clear hK K hb3 hmap3 hf3 hS2
  refine wpAnyH_done (by kernel_rfl) ?_ _
  go_wp2
  go_ret
  have hno := HNO.out
  have hm3 := HM3.out
  rw [byC_none hno] at hm3
  simp only [Option.isSome_none, Bool.false_eq_true, if_false] at hm3
  refine ⟨rfl, v', ⟨HB3.out, HR3.out, ?_, H.out.far, ins_hw H.out.once hno, fun t ht => ?_, ⟨H.out.few.1, by omega, by rw [ins_len]; omega⟩⟩, fun k hk => ?_, ?_⟩
  · rw [ins_len]
    exact hm3.congr (fun x _ => byC_ins (t := ⟨d, u, last + 1⟩) H.out.once hno x)
  · rcases ins_mem.1 ht with rfl | ht
    · exact hu
    · exact H.out.each t ht
  · rcases HO2.out k hk with h | h
    · exact .inl h
    · have := F0.out.size; right; omega
  · refine ((F0.out.mono (fun _ _ h => h.elim)).trans (HF2.out.mono (fun k _ hk => .inr (.inr hk)))).trans (HF3.out.mono (fun k _ hk => .inr (.inl hk)))

/-- Whose deadline has come. -/
def due (S : List Th) (now : Nat) : List Th := S.takeWhile fun t => decide (t.d ≤ now)
def rest (S : List Th) (now : Nat) : List Th := S.dropWhile fun t => decide (t.d ≤ now)
theorem u64Info : (Tryd.prog.info? 25).map (fun i => (i.zero, i.size, i.bytes)) = some (some (.int .u64 0), 1, 8) := by kernel_rfl
def u64c (l : List Nat) : List Value := l.map fun (x : Nat) => Value.int .u64 (x : Int)
theorem u64c_snoc (l : List Nat) (x : Nat) : u64c l ++ [.int .u64 x] = u64c (l ++ [x]) := by simp [u64c]
theorem u64c_get {l : List Nat} {j x : Nat} (h : l[j]? = some x) : (u64c l)[j]? = some (.int .u64 x) := by simp [u64c, h]
/-- A tick, so far: k were taken. -/
structure TickR (w : World) (cb hb mb bm : Nat) (v : Value) (S : List Th) (last now B : Nat) (k : Nat) (vl v' : Value) (wr : World) : Prop where
  all : ∀ t ∈ S.take k, t.d ≤ now
  le : k ≤ S.length
  row : wr.ownsRow B 25 1 vl k (u64c ((S.take k).map Th.what))
  rep : ClockRep wr cb hb mb bm v' (S.drop k) last now
  own : ∀ b, v'.ownBlock = some b → v.ownBlock = some b
  fr : Fr (cOwn cb hb mb bm v) w wr
theorem tick_split {S : List Th} {now k : Nat} (h1 : ∀ t ∈ S.take k, t.d ≤ now) (h2 : ∀ t, (S.drop k).head? = some t → now < t.d) : S.take k = due S now ∧ S.drop k = rest S now := by
  unfold due rest
  have e : S = S.take k ++ S.drop k := (List.take_append_drop k S).symm
  have a1 : (S.take k ++ S.drop k).takeWhile (fun t => decide (t.d ≤ now)) = S.take k := by
    rw [List.takeWhile_append_of_pos (fun t ht => decide_eq_true (h1 t ht))]
    cases hd : S.drop k with
    | nil => simp
    | cons x r =>
      have := h2 x (by rw [hd]; rfl)
      rw [List.takeWhile_cons_of_neg (by simp; omega), List.append_nil]
  have a2 : (S.take k ++ S.drop k).dropWhile (fun t => decide (t.d ≤ now)) = S.drop k := by
    rw [List.dropWhile_append_of_pos (fun t ht => decide_eq_true (h1 t ht))]
    cases hd : S.drop k with
    | nil => simp
    | cons x r =>
      have := h2 x (by rw [hd]; rfl)
      rw [List.dropWhile_cons_of_neg (by simp; omega)]
  rw [← e] at a1 a2
  exact ⟨a1.symm, a2.symm⟩

set_option maxRecDepth 100000 in
set_option maxHeartbeats 4000000 in
theorem tick_any (cb hb mb bm : Nat) (v : Value) (S : List Th) (last now : Nat) (w : World) (h : ClockRep w cb hb mb bm v S last now) (hn : now < 100000) :
    Calls Tryd.prog 11 #[.pointer (some ⟨cb, 0, none⟩)] w fun e w' => ∃ vl v', e = .returned vl ∧ w'.ownsRow w.heap.size 25 1 vl (due S (now + 1)).length (u64c ((due S (now + 1)).map Th.what)) ∧ ClockRep w' cb hb mb bm v' (rest S (now + 1)) last (now + 1) ∧ (∀ k, v'.ownBlock = some k → v.ownBlock = some k) ∧ Fr (cOwn cb hb mb bm v) w w' := by
  have c0 := cell_of_block h.hd 0
  have z0 := free_of_block h.hd 0
  have l1 := lt_of_block h.hd
  rw [show (#[Value.int .u64 now, .pointer (some ⟨hb, 0, none⟩), .map (some bm)] : Array Value)[0]? = some (.int .u64 now) from rfl] at c0
  obtain ⟨i0, hi, hz0, hz1, hz2⟩ := info_parts u64Info
  have hap := h.apart
  have HAP := Lib.hid hap
  have H := Lib.hid h
  clear h hap
  go_enter Tryd.func11, Tryd.ntmps11
  go_wp2_with fail
  rw [show (now : Int) + 1 = ((now + 1 : Nat) : Int) by omega]
  have hst : TickR w cb hb mb bm v S last (now + 1) w.heap.size 0 (.slice none 0 0) v (w.setCell ⟨cb, 0, none⟩ (.int .u64 ((now + 1 : Nat) : Int))) := by
    have f : Fr (· = cb) w (w.setCell ⟨cb, 0, none⟩ (.int .u64 ((now + 1 : Nat) : Int))) := (Fr.refl (· = cb) w).setCell (fun _ => rfl) _
    exact ⟨fun t ht => by simp at ht, by omega, World.ownsRow_nil _ _ _ _, ⟨block_setCell H.out.hd _, H.out.heap.keep f (fun k hk e => (HAP.out.1 k hk).1 e), H.out.map.keep f HAP.out.2, H.out.far, H.out.once, H.out.each, by have := H.out.few; rw [List.drop_zero]; omega⟩, fun _ h => h, f.mono (fun k _ e => .inl e)⟩
  have HST := Lib.hid hst
  clear hst c0 z0
  go_loopg [3] (S.length + 1) (fun gg vl wr => ∃ k v', gg = S.length - k + 1 ∧ TickR w cb hb mb bm v S last (now + 1) w.heap.size k vl v' wr)
  case atStart => exact ⟨0, v, by omega, HST.out⟩
  case round =>
    clear HST
    obtain ⟨k, v', rfl, hr⟩ := hrel
    have HR := Lib.hid hr
    have c0 := cell_of_block hr.rep.hd 0
    have c1 := cell_of_block hr.rep.hd 1
    have c2 := cell_of_block hr.rep.hd 2
    have l2 := lt_of_block hr.rep.hd
    rw [show (#[Value.int .u64 ((now + 1 : Nat) : Int), .pointer (some ⟨hb, 0, none⟩), .map (some bm)] : Array Value)[0]? = some (.int .u64 ((now + 1 : Nat) : Int)) from rfl] at c0
    rw [show (#[Value.int .u64 ((now + 1 : Nat) : Int), .pointer (some ⟨hb, 0, none⟩), .map (some bm)] : Array Value)[1]? = some (.pointer (some ⟨hb, 0, none⟩)) from rfl] at c1
    have hall := hr.all
    have HVL := Lib.hid (show ∀ b, u3.ownBlock = some b → ¬ cOwn cb hb mb bm v b from fun b hb' e => by have h1 := (hr.row.lt b hb').1; have h2 := H.out.lt e; omega)
    clear hr
    have hcase : (∃ t r, S.drop k = t :: r ∧ t.d ≤ now + 1) ∨ (∀ t, (S.drop k).head? = some t → now + 1 < t.d) := by
      cases hd : S.drop k with
      | nil => right; intro t ht; simp at ht
      | cons t r =>
        by_cases e : t.d ≤ now + 1
        · exact .inl ⟨t, r, rfl, e⟩
        · right; intro t' ht'; obtain rfl : t = t' := by simpa using ht'
          omega
    rcases hcase with ⟨t, r, hSd, htd⟩ | hnone
    · have hkl : k < S.length := by
        rcases Nat.lt_or_ge k S.length with h | h
        · exact h
        · rw [List.drop_eq_nil_of_le h] at hSd; cases hSd
      have hPOP := fun w' (n : New wr w') => hpop_ok hb mb v' (S.drop k) last (now + 1) t r w' (HR.out.rep.heap.new n) hSd htd (by omega)
      have HPOP := Lib.hid hPOP
      have HSD := Lib.hid hSd
      have HTD := Lib.hid htd
      have htm : t ∈ S := List.mem_of_mem_drop (by rw [hSd]; exact List.mem_cons_self ..)
      have hkb : k < 10000 := by have := H.out.few; omega
      clear hPOP hSd htd hall
      go_wp2_with fail
      have f0 : New wr wr.drew := (Fr.refl _ _).drew
      refine heldStart (fun W => W.cell? ⟨cb, 0, none⟩ = some (.int .u64 ((now + 1 : Nat) : Int)) ∧ W.cell? ⟨cb, 1, none⟩ = some (.pointer (some ⟨hb, 0, none⟩))) (by kernel_rfl) ?_
      have HP := Lib.hid (HPOP.out _ f0)
      have F0 := Lib.hid f0
      have hS : (fun W : World => W.cell? ⟨cb, 0, none⟩ = some (.int .u64 ((now + 1 : Nat) : Int)) ∧ W.cell? ⟨cb, 1, none⟩ = some (.pointer (some ⟨hb, 0, none⟩))) wr.drew := ⟨c0, c1⟩
      generalize wr.drew = W0 at hS HP F0 ⊢
      clear f0 c0 c1 c2
      refine wpAnyH_take (i := 0) (v := ?_) rfl (by kernel_rfl) (by kernel_rfl) (by kernel_rfl) (fun _ _ _ h => h) (Or.inl ⟨by rfl, ?_⟩) hS ?_
      rotate_left
      · intro w hSw; first | (obtain ⟨s1, s2, s3, s4, s5, s6, s7⟩ := hSw; go_simp; rfl) | (obtain ⟨s1, s2, s3⟩ := hSw; go_simp; rfl) | (obtain ⟨s1, s2⟩ := hSw; go_simp; rfl) | (have s1 := hSw; go_simp; rfl)
      go_simp
      refine wpAnyH_take (i := 1) (v := ?_) rfl (by kernel_rfl) (by kernel_rfl) (by kernel_rfl) (fun _ _ _ h => h) (Or.inl ⟨by rfl, ?_⟩) hS ?_
      rotate_left
      · intro w hSw; first | (obtain ⟨s1, s2, s3, s4, s5, s6, s7⟩ := hSw; go_simp; rfl) | (obtain ⟨s1, s2, s3⟩ := hSw; go_simp; rfl) | (obtain ⟨s1, s2⟩ := hSw; go_simp; rfl) | (have s1 := hSw; go_simp; rfl)
      go_simp
      refine wpAnyH_take (i := 2) (v := ?_) rfl (by kernel_rfl) (by kernel_rfl) (by kernel_rfl) (fun _ _ _ h => h) (Or.inl ⟨by rfl, ?_⟩) hS ?_
      rotate_left
      · intro w hSw; first | (obtain ⟨s1, s2, s3, s4, s5, s6, s7⟩ := hSw; go_simp; rfl) | (obtain ⟨s1, s2, s3⟩ := hSw; go_simp; rfl) | (obtain ⟨s1, s2⟩ := hSw; go_simp; rfl) | (have s1 := hSw; go_simp; rfl)
      go_simp
      refine wpAnyH_take (i := 3) (v := ?_) rfl (by kernel_rfl) (by kernel_rfl) (by kernel_rfl) (fun _ _ _ h => h) (Or.inl ⟨by rfl, ?_⟩) hS ?_
      rotate_left
      · intro w hSw; first | (obtain ⟨s1, s2, s3, s4, s5, s6, s7⟩ := hSw; go_simp; rfl) | (obtain ⟨s1, s2, s3⟩ := hSw; go_simp; rfl) | (obtain ⟨s1, s2⟩ := hSw; go_simp; rfl) | (have s1 := hSw; go_simp; rfl)
      go_simp
      refine wpAnyH_take (i := 4) (v := ?_) rfl (by kernel_rfl) (by kernel_rfl) (by kernel_rfl) (fun _ _ _ h => h) (Or.inl ⟨by rfl, ?_⟩) hS ?_
      rotate_left
      · intro w hSw; first | (obtain ⟨s1, s2, s3, s4, s5, s6, s7⟩ := hSw; go_simp; rfl) | (obtain ⟨s1, s2, s3⟩ := hSw; go_simp; rfl) | (obtain ⟨s1, s2⟩ := hSw; go_simp; rfl) | (have s1 := hSw; go_simp; rfl)
      go_simp
      refine wpAnyH_take (i := 5) (v := ?_) rfl (by kernel_rfl) (by kernel_rfl) (by kernel_rfl) (fun _ _ _ h => h) (Or.inl ⟨by rfl, ?_⟩) hS ?_
      rotate_left
      · intro w hSw; first | (obtain ⟨s1, s2, s3, s4, s5, s6, s7⟩ := hSw; go_simp; rfl) | (obtain ⟨s1, s2, s3⟩ := hSw; go_simp; rfl) | (obtain ⟨s1, s2⟩ := hSw; go_simp; rfl) | (have s1 := hSw; go_simp; rfl)
      go_simp
      refine wpAnyH_take (i := 6) (v := ?_) rfl (by kernel_rfl) (by kernel_rfl) (by kernel_rfl) (fun _ _ _ h => h) (Or.inl ⟨by rfl, ?_⟩) hS ?_
      rotate_left
      · intro w hSw; first | (obtain ⟨s1, s2, s3, s4, s5, s6, s7⟩ := hSw; go_simp; rfl) | (obtain ⟨s1, s2, s3⟩ := hSw; go_simp; rfl) | (obtain ⟨s1, s2⟩ := hSw; go_simp; rfl) | (have s1 := hSw; go_simp; rfl)
      go_simp
      refine wpAnyH_take (i := 7) (v := ?_) rfl (by kernel_rfl) (by kernel_rfl) (by kernel_rfl) (fun _ _ _ h => h) (Or.inl ⟨by rfl, ?_⟩) hS ?_
      rotate_left
      · intro w hSw; first | (obtain ⟨s1, s2, s3, s4, s5, s6, s7⟩ := hSw; go_simp; rfl) | (obtain ⟨s1, s2, s3⟩ := hSw; go_simp; rfl) | (obtain ⟨s1, s2⟩ := hSw; go_simp; rfl) | (have s1 := hSw; go_simp; rfl)
      go_simp
      refine heldOne (i := 8) (by kernel_rfl) rfl (by rfl) (fun K hK => ?_)
      go_simp
      refine HP.out.mono ?_
      rintro e w2 ⟨rfl, v2, hr2, ho2, hf2⟩
      have hap := HR.out.rep.apart
      have hb0 := (F0.out.block cb l2 id).trans HR.out.rep.hd
      have hb2 := (hf2.block cb (lt_of_block hb0) (fun e => (hap.1 cb e).1 rfl)).trans hb0
      have hm2 := (HR.out.rep.map.keep F0.out id).keep hf2 (fun e => (hap.1 bm e).2 rfl)
      have hS2 : (fun W : World => W.cell? ⟨cb, 0, none⟩ = some (.int .u64 ((now + 1 : Nat) : Int)) ∧ W.cell? ⟨cb, 1, none⟩ = some (.pointer (some ⟨hb, 0, none⟩))) w2 := ⟨cell_of_block hb2 0, cell_of_block hb2 1⟩
      have d2 := cell_of_block hb2 2
      have lb2 := lt_of_block hb2
      rw [show (#[Value.int .u64 ((now + 1 : Nat) : Int), .pointer (some ⟨hb, 0, none⟩), .map (some bm)] : Array Value)[2]? = some (.map (some bm)) from rfl] at d2
      have HR2 := Lib.hid hr2
      have HO2 := Lib.hid ho2
      have HF2 := Lib.hid hf2
      have HB2 := Lib.hid hb2
      have HM2 := Lib.hid hm2
      have HAP2 := Lib.hid hap
      refine hK.out _ _ hS2 ?_
      clear hK K hr2 ho2 hf2 hb0 hb2 hm2 hap hS
      refine wpAnyH_take (i := 9) (v := ?_) rfl (by kernel_rfl) (by kernel_rfl) (by kernel_rfl) (fun _ _ _ h => h) (Or.inl ⟨by rfl, ?_⟩) hS2 ?_
      rotate_left
      · intro w hSw; first | (obtain ⟨s1, s2, s3, s4, s5, s6, s7⟩ := hSw; go_simp; rfl) | (obtain ⟨s1, s2, s3⟩ := hSw; go_simp; rfl) | (obtain ⟨s1, s2⟩ := hSw; go_simp; rfl) | (have s1 := hSw; go_simp; rfl)
      go_simp
      refine wpAnyH_take (i := 10) (v := ?_) rfl (by kernel_rfl) (by kernel_rfl) (by kernel_rfl) (fun _ _ _ h => h) (Or.inl ⟨by rfl, ?_⟩) hS2 ?_
      rotate_left
      · intro w hSw; first | (obtain ⟨s1, s2, s3, s4, s5, s6, s7⟩ := hSw; go_simp; rfl) | (obtain ⟨s1, s2, s3⟩ := hSw; go_simp; rfl) | (obtain ⟨s1, s2⟩ := hSw; go_simp; rfl) | (have s1 := hSw; go_simp; rfl)
      go_simp
      refine wpAnyH_take (i := 11) (v := ?_) rfl (by kernel_rfl) (by kernel_rfl) (by kernel_rfl) (fun _ _ _ h => h) (Or.inl ⟨by rfl, ?_⟩) hS2 ?_
      rotate_left
      · intro w hSw; first | (obtain ⟨s1, s2, s3, s4, s5, s6, s7⟩ := hSw; go_simp; rfl) | (obtain ⟨s1, s2, s3⟩ := hSw; go_simp; rfl) | (obtain ⟨s1, s2⟩ := hSw; go_simp; rfl) | (have s1 := hSw; go_simp; rfl)
      go_simp
      refine wpAnyH_take (i := 12) (v := ?_) rfl (by kernel_rfl) (by kernel_rfl) (by kernel_rfl) (fun _ _ _ h => h) (Or.inl ⟨by rfl, ?_⟩) hS2 ?_
      rotate_left
      · intro w hSw; first | (obtain ⟨s1, s2, s3, s4, s5, s6, s7⟩ := hSw; go_simp; rfl) | (obtain ⟨s1, s2, s3⟩ := hSw; go_simp; rfl) | (obtain ⟨s1, s2⟩ := hSw; go_simp; rfl) | (have s1 := hSw; go_simp; rfl)
      go_simp
      refine wpAnyH_take (i := 13) (v := ?_) rfl (by kernel_rfl) (by kernel_rfl) (by kernel_rfl) (fun _ _ _ h => h) (Or.inl ⟨by rfl, ?_⟩) hS2 ?_
      rotate_left
      · intro w hSw; first | (obtain ⟨s1, s2, s3, s4, s5, s6, s7⟩ := hSw; go_simp; rfl) | (obtain ⟨s1, s2, s3⟩ := hSw; go_simp; rfl) | (obtain ⟨s1, s2⟩ := hSw; go_simp; rfl) | (have s1 := hSw; go_simp; rfl)
      go_simp
      refine wpAnyH_done (by kernel_rfl) ?_ _
      clear hS2
      have hwf := wf_u64 (x := t.what) (by
        obtain ⟨L, M, _, _, _, _, _, _, _, _, h9, _⟩ := H.out.heap
        have := h9 t htm; omega)
      go_wp2_with (first
        | (at_delete; go_loud (refine wpList_delete_mapIs rfl _ _ 57 25 rfl 64 .u64 keyU Tryd.underlying57 bm (S.drop k).length (byC (S.drop k)) rfl HM2.out t.what rfl hwf ?_; intro w3 hmap3 hf3; have HM3 := Lib.hid hmap3; have HF3 := Lib.hid hf3; have hown3 := own_kept (own_kept (own_kept HR.out.row F0.out (fun _ _ => id)) HF2.out (fun b hb' e => HVL.out b hb' (.inr (.inr (by rcases e with e | e | e; exact .inl e; exact .inr (.inl e); exact .inr (.inr (HR.out.own b e))))))) hf3 (fun b hb' e => HVL.out b hb' (.inr (.inl e))); have HOW3 := Lib.hid hown3; have hs3 : w.heap.size ≤ w3.heap.size := Nat.le_trans HR.out.fr.size (Nat.le_trans F0.out.size (Nat.le_trans HF2.out.size hf3.size)); clear hmap3 hf3 hown3))
        | (at_builtin; go_loud (refine wpList_append_own _ rfl (.tmp 33) (.tmp 35) 35 rfl w.heap.size 25 i0 _ 1 8 Tryd.underlying35 hi hz0 hz1 hz2 rfl (by decide) _ _ _ rfl (HOW3.out.alloc _) ⟨w3.heap.size, 0, none⟩ 1 1 [.int .u64 t.what] rfl rfl (Arr.add (Arr.new _ _ _)) (by simp [Value.oneCell']) (by unfold maxLen; omega) (by omega) (by rw [World.size_alloc]; omega) ?_; intro v4 w4 hown4 hgrow4 hnil4; clear hnil4)))
      have f4 : Fr (fun b => u3.ownBlock = some b) w3 w4 := ((Fr.refl _ w3).alloc _).grown hgrow4 (fun b hb' _ => hb')
      have hov : ∀ b, cOwn cb hb mb bm v2 b → cOwn cb hb mb bm v b := fun b hb' => by
        rcases hb' with h | h | h | h | h
        · exact .inl h
        · exact .inr (.inl h)
        · exact .inr (.inr (.inl h))
        · exact .inr (.inr (.inr (.inl h)))
        · exact .inr (.inr (.inr (.inr (HR.out.own b (HO2.out b h)))))
      have hsdk : S.drop (k + 1) = r := by rw [← List.drop_drop, HSD.out]; rfl
      have htk : S.take (k + 1) = S.take k ++ [t] := by
        rw [List.take_add_one]
        have := HSD.out
        rw [List.drop_eq_getElem_cons hkl] at this
        rw [List.getElem?_eq_getElem hkl, (List.cons.inj this).1]; rfl
      have hw : Hw (t :: r) := by have := HR.out.rep.once; rw [HSD.out] at this; exact this
      have hrow : TickR w cb hb mb bm v S last (now + 1) w.heap.size (k + 1) v4 v2 w4 := by
        refine ⟨fun x hx => ?_, hkl, ?_, ⟨?_, ?_, ?_, HR.out.rep.far, ?_, ?_, ?_⟩, fun b h => HR.out.own b (HO2.out b h), ?_⟩
        · rw [htk] at hx
          rcases List.mem_append.1 hx with hx | hx
          · exact HR.out.all x hx
          · rw [List.mem_singleton.1 hx]; exact HTD.out
        · rw [htk, List.map_append, show [t].map Th.what = [t.what] from rfl, ← u64c_snoc]; exact hown4
        · rw [f4.block cb (Nat.lt_of_lt_of_le lb2 HF3.out.size) (fun e => HVL.out cb e (.inl rfl)), HF3.out.block cb lb2 (fun e => HAP2.out.2 e.symm)]; exact HB2.out
        · rw [hsdk]
          refine (HR2.out.keep HF3.out (fun b hb' e => ?_)).keep f4 (fun b hb' e => HVL.out b e (hov b (.inr (.inr hb'))))
          rcases hb' with h | h | h
          · exact (HAP2.out.1 b (.inl h)).2 e
          · exact (HAP2.out.1 b (.inr (.inl h))).2 e
          · exact (HAP2.out.1 b (.inr (.inr (HO2.out b h)))).2 e
        · have hm := HM3.out.keep f4 (fun e => HVL.out bm e (.inr (.inl rfl)))
          rw [HSD.out, byC_of hw (List.mem_cons_self ..)] at hm
          simp only [Option.isSome_some, if_true, List.length_cons, Nat.add_sub_cancel] at hm
          rw [hsdk]
          refine hm.congr (fun y _ => ?_)
          by_cases e : y = (t.what : Int)
          · rw [if_pos e, e]
            exact byC_none (by rw [Bool.eq_false_iff]; intro hh; obtain ⟨s, hs, e2⟩ := hasW_iff.1 hh; exact (List.pairwise_cons.1 hw).1 s hs e2.symm)
          · rw [if_neg e]
            unfold byC
            rw [List.find?_cons_of_neg (by simpa using (fun e2 => e (Eq.symm e2)))]
        · rw [hsdk]; exact (List.pairwise_cons.1 hw).2
        · intro x hx
          rw [hsdk] at hx
          exact HR.out.rep.each x (by rw [HSD.out]; exact List.mem_cons_of_mem _ hx)
        · have := HR.out.rep.few
          rw [HSD.out] at this
          rw [hsdk]
          simp at this; omega
        · refine (((HR.out.fr.trans (F0.out.mono (fun _ _ h => h.elim))).trans (HF2.out.mono (fun b _ e => ?_))).trans (HF3.out.mono (fun b _ e => .inr (.inl e)))).then f4 (fun b hbs e => ?_)
          · rcases e with e | e | e
            · exact .inr (.inr (.inl e))
            · exact .inr (.inr (.inr (.inl e)))
            · exact .inr (.inr (.inr (.inr (HR.out.own b e))))
          · have := (HR.out.row.lt b e).1; omega
      have HROW := Lib.hid hrow
      clear hrow hw htk hsdk hov f4 hown4 hgrow4
      go_roundg (S.length - (k + 1) + 1)
      case measure => omega
      case rel => exact ⟨k + 1, v2, rfl, HROW.out⟩
    · have HPN := Lib.hid (fun w' (n : New wr w') => hpop_none hb mb v' (S.drop k) last (now + 1) w' (HR.out.rep.heap.new n) hnone)
      obtain ⟨e1, e2⟩ := tick_split hall hnone
      have HE1 := Lib.hid e1
      have HE2 := Lib.hid e2
      clear hnone hall e1 e2
      go_wp2_with fail
      have f0 : New wr wr.drew := (Fr.refl _ _).drew
      refine heldStart (fun W => W.cell? ⟨cb, 0, none⟩ = some (.int .u64 ((now + 1 : Nat) : Int)) ∧ W.cell? ⟨cb, 1, none⟩ = some (.pointer (some ⟨hb, 0, none⟩))) (by kernel_rfl) ?_
      have HP := Lib.hid (HPN.out _ f0)
      have F0 := Lib.hid f0
      have hS : (fun W : World => W.cell? ⟨cb, 0, none⟩ = some (.int .u64 ((now + 1 : Nat) : Int)) ∧ W.cell? ⟨cb, 1, none⟩ = some (.pointer (some ⟨hb, 0, none⟩))) wr.drew := ⟨c0, c1⟩
      generalize wr.drew = W0 at hS HP F0 ⊢
      have hl0 := Nat.lt_of_lt_of_le l2 F0.out.size
      clear f0 c0 c1 c2
      refine wpAnyH_take (i := 0) (v := ?_) rfl (by kernel_rfl) (by kernel_rfl) (by kernel_rfl) (fun _ _ _ h => h) (Or.inl ⟨by rfl, ?_⟩) hS ?_
      rotate_left
      · intro w hSw; first | (obtain ⟨s1, s2, s3, s4, s5, s6, s7⟩ := hSw; go_simp; rfl) | (obtain ⟨s1, s2, s3⟩ := hSw; go_simp; rfl) | (obtain ⟨s1, s2⟩ := hSw; go_simp; rfl) | (have s1 := hSw; go_simp; rfl)
      go_simp
      refine wpAnyH_take (i := 1) (v := ?_) rfl (by kernel_rfl) (by kernel_rfl) (by kernel_rfl) (fun _ _ _ h => h) (Or.inl ⟨by rfl, ?_⟩) hS ?_
      rotate_left
      · intro w hSw; first | (obtain ⟨s1, s2, s3, s4, s5, s6, s7⟩ := hSw; go_simp; rfl) | (obtain ⟨s1, s2, s3⟩ := hSw; go_simp; rfl) | (obtain ⟨s1, s2⟩ := hSw; go_simp; rfl) | (have s1 := hSw; go_simp; rfl)
      go_simp
      refine wpAnyH_take (i := 2) (v := ?_) rfl (by kernel_rfl) (by kernel_rfl) (by kernel_rfl) (fun _ _ _ h => h) (Or.inl ⟨by rfl, ?_⟩) hS ?_
      rotate_left
      · intro w hSw; first | (obtain ⟨s1, s2, s3, s4, s5, s6, s7⟩ := hSw; go_simp; rfl) | (obtain ⟨s1, s2, s3⟩ := hSw; go_simp; rfl) | (obtain ⟨s1, s2⟩ := hSw; go_simp; rfl) | (have s1 := hSw; go_simp; rfl)
      go_simp
      refine wpAnyH_take (i := 3) (v := ?_) rfl (by kernel_rfl) (by kernel_rfl) (by kernel_rfl) (fun _ _ _ h => h) (Or.inl ⟨by rfl, ?_⟩) hS ?_
      rotate_left
      · intro w hSw; first | (obtain ⟨s1, s2, s3, s4, s5, s6, s7⟩ := hSw; go_simp; rfl) | (obtain ⟨s1, s2, s3⟩ := hSw; go_simp; rfl) | (obtain ⟨s1, s2⟩ := hSw; go_simp; rfl) | (have s1 := hSw; go_simp; rfl)
      go_simp
      refine wpAnyH_take (i := 4) (v := ?_) rfl (by kernel_rfl) (by kernel_rfl) (by kernel_rfl) (fun _ _ _ h => h) (Or.inl ⟨by rfl, ?_⟩) hS ?_
      rotate_left
      · intro w hSw; first | (obtain ⟨s1, s2, s3, s4, s5, s6, s7⟩ := hSw; go_simp; rfl) | (obtain ⟨s1, s2, s3⟩ := hSw; go_simp; rfl) | (obtain ⟨s1, s2⟩ := hSw; go_simp; rfl) | (have s1 := hSw; go_simp; rfl)
      go_simp
      refine wpAnyH_take (i := 5) (v := ?_) rfl (by kernel_rfl) (by kernel_rfl) (by kernel_rfl) (fun _ _ _ h => h) (Or.inl ⟨by rfl, ?_⟩) hS ?_
      rotate_left
      · intro w hSw; first | (obtain ⟨s1, s2, s3, s4, s5, s6, s7⟩ := hSw; go_simp; rfl) | (obtain ⟨s1, s2, s3⟩ := hSw; go_simp; rfl) | (obtain ⟨s1, s2⟩ := hSw; go_simp; rfl) | (have s1 := hSw; go_simp; rfl)
      go_simp
      refine wpAnyH_take (i := 6) (v := ?_) rfl (by kernel_rfl) (by kernel_rfl) (by kernel_rfl) (fun _ _ _ h => h) (Or.inl ⟨by rfl, ?_⟩) hS ?_
      rotate_left
      · intro w hSw; first | (obtain ⟨s1, s2, s3, s4, s5, s6, s7⟩ := hSw; go_simp; rfl) | (obtain ⟨s1, s2, s3⟩ := hSw; go_simp; rfl) | (obtain ⟨s1, s2⟩ := hSw; go_simp; rfl) | (have s1 := hSw; go_simp; rfl)
      go_simp
      refine wpAnyH_take (i := 7) (v := ?_) rfl (by kernel_rfl) (by kernel_rfl) (by kernel_rfl) (fun _ _ _ h => h) (Or.inl ⟨by rfl, ?_⟩) hS ?_
      rotate_left
      · intro w hSw; first | (obtain ⟨s1, s2, s3, s4, s5, s6, s7⟩ := hSw; go_simp; rfl) | (obtain ⟨s1, s2, s3⟩ := hSw; go_simp; rfl) | (obtain ⟨s1, s2⟩ := hSw; go_simp; rfl) | (have s1 := hSw; go_simp; rfl)
      go_simp
      refine heldOne (i := 8) (by kernel_rfl) rfl (by rfl) (fun K hK => ?_)
      go_simp
      refine HP.out.mono ?_
      rintro e w2 ⟨rfl, hn2⟩
      have hS2 : (fun W : World => W.cell? ⟨cb, 0, none⟩ = some (.int .u64 ((now + 1 : Nat) : Int)) ∧ W.cell? ⟨cb, 1, none⟩ = some (.pointer (some ⟨hb, 0, none⟩))) w2 := ⟨(hn2.cell hl0 id 0).trans hS.1, (hn2.cell hl0 id 1).trans hS.2⟩
      have HN2 := Lib.hid (F0.out.trans hn2)
      refine hK.out _ _ hS2 ?_
      clear hK K hn2 hS
      refine wpAnyH_take (i := 9) (v := ?_) rfl (by kernel_rfl) (by kernel_rfl) (by kernel_rfl) (fun _ _ _ h => h) (Or.inl ⟨by rfl, ?_⟩) hS2 ?_
      rotate_left
      · intro w hSw; first | (obtain ⟨s1, s2, s3, s4, s5, s6, s7⟩ := hSw; go_simp; rfl) | (obtain ⟨s1, s2, s3⟩ := hSw; go_simp; rfl) | (obtain ⟨s1, s2⟩ := hSw; go_simp; rfl) | (have s1 := hSw; go_simp; rfl)
      go_simp
      refine wpAnyH_take (i := 10) (v := ?_) rfl (by kernel_rfl) (by kernel_rfl) (by kernel_rfl) (fun _ _ _ h => h) (Or.inl ⟨by rfl, ?_⟩) hS2 ?_
      rotate_left
      · intro w hSw; first | (obtain ⟨s1, s2, s3, s4, s5, s6, s7⟩ := hSw; go_simp; rfl) | (obtain ⟨s1, s2, s3⟩ := hSw; go_simp; rfl) | (obtain ⟨s1, s2⟩ := hSw; go_simp; rfl) | (have s1 := hSw; go_simp; rfl)
      go_simp
      refine wpAnyH_take (i := 11) (v := ?_) rfl (by kernel_rfl) (by kernel_rfl) (by kernel_rfl) (fun _ _ _ h => h) (Or.inl ⟨by rfl, ?_⟩) hS2 ?_
      rotate_left
      · intro w hSw; first | (obtain ⟨s1, s2, s3, s4, s5, s6, s7⟩ := hSw; go_simp; rfl) | (obtain ⟨s1, s2, s3⟩ := hSw; go_simp; rfl) | (obtain ⟨s1, s2⟩ := hSw; go_simp; rfl) | (have s1 := hSw; go_simp; rfl)
      go_simp
      refine wpAnyH_take (i := 12) (v := ?_) rfl (by kernel_rfl) (by kernel_rfl) (by kernel_rfl) (fun _ _ _ h => h) (Or.inl ⟨by rfl, ?_⟩) hS2 ?_
      rotate_left
      · intro w hSw; first | (obtain ⟨s1, s2, s3, s4, s5, s6, s7⟩ := hSw; go_simp; rfl) | (obtain ⟨s1, s2, s3⟩ := hSw; go_simp; rfl) | (obtain ⟨s1, s2⟩ := hSw; go_simp; rfl) | (have s1 := hSw; go_simp; rfl)
      go_simp
      refine wpAnyH_take (i := 13) (v := ?_) rfl (by kernel_rfl) (by kernel_rfl) (by kernel_rfl) (fun _ _ _ h => h) (Or.inl ⟨by rfl, ?_⟩) hS2 ?_
      rotate_left
      · intro w hSw; first | (obtain ⟨s1, s2, s3, s4, s5, s6, s7⟩ := hSw; go_simp; rfl) | (obtain ⟨s1, s2, s3⟩ := hSw; go_simp; rfl) | (obtain ⟨s1, s2⟩ := hSw; go_simp; rfl) | (have s1 := hSw; go_simp; rfl)
      go_simp
      refine wpAnyH_done (by kernel_rfl) ?_ _
      clear hS2
      go_wp2
      go_ret
      have hk : (due S (now + 1)).length = k := by rw [← HE1.out, List.length_take, Nat.min_eq_left HR.out.le]
      refine ⟨_, v', rfl, ?_, by rw [← HE2.out]; exact HR.out.rep.new HN2.out, HR.out.own, HR.out.fr.trans (HN2.out.mono (fun _ _ h => h.elim))⟩
      rw [hk, ← HE1.out]
      exact own_kept HR.out.row HN2.out (fun _ _ => id)

end Go.Proofs.YtafeopcbfgmjkaaDoor
