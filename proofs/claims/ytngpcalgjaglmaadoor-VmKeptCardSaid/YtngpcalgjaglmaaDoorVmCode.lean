/- Instructions copied and compared (CodeE's, under names that are free at this seat). -/
import Derived.Test.YtngpcalgjaglmaaDoorRecs
import Derived.Test.YtngpcalgjaglmaaDoorReg
import Derived.Test.YtngpcalgjaglmaaDoorCodeM
import Derived.Lib.Hide
import Derived.Laws.StructEq
namespace Go.Proofs.YtngpcalgjaglmaaDoor
open Go.RowKit

abbrev insKs : List IntKind := [.i64, .i64, .i64, .i64, .u64, .i64, .i64]
/-- An instruction of a code, with its cells. -/
theorem ins_at {w : World} {ao : Option Addr} {rs : List (List Int)} {k : Nat} (h : Recs insKs w ao rs) (hf : ∀ r ∈ rs, RecOk insKs r) (hk : k < rs.length) :
    ∃ (o A B C : Int) (V : Nat) (M W : Int) (g off : Nat), rs[k] = [o, A, B, C, (V : Int), M, W] ∧ ao = some ⟨g, off, none⟩ ∧ g < w.heap.size ∧ V < 18446744073709551616 ∧
      w.cell? ⟨g, off + k * 7, none⟩ = some (.int .i64 o) ∧ w.cell? ⟨g, off + k * 7 + 1, none⟩ = some (.int .i64 A) ∧ w.cell? ⟨g, off + k * 7 + 2, none⟩ = some (.int .i64 B) ∧ w.cell? ⟨g, off + k * 7 + 3, none⟩ = some (.int .i64 C) ∧
      w.cell? ⟨g, off + k * 7 + 4, none⟩ = some (.int .u64 V) ∧ w.cell? ⟨g, off + k * 7 + 5, none⟩ = some (.int .i64 M) ∧ w.cell? ⟨g, off + k * 7 + 6, none⟩ = some (.int .i64 W) := by
  have hr : rs[k]? = some rs[k] := by simp [hk]
  obtain ⟨hl, hz⟩ := hf rs[k] (List.getElem_mem hk)
  generalize rs[k] = r at hr hl hz
  obtain ⟨g, off, e, hg, hc⟩ := h k r hr
  match r, hl with
  | [o, A, B, C, V, M, W], _ =>
    have b4 := bounds_u64 (hz 4 _ .u64 rfl rfl)
    have c4 := hc 4 _ _ rfl rfl
    obtain ⟨V, rfl⟩ := Int.eq_ofNat_of_zero_le b4.1
    exact ⟨o, A, B, C, V, M, W, g, off, rfl, e, hg, by omega, hc 0 _ _ rfl rfl, hc 1 _ _ rfl rfl, hc 2 _ _ rfl rfl, hc 3 _ _ rfl rfl, c4, hc 5 _ _ rfl rfl, hc 6 _ _ rfl rfl⟩

theorem recs_one {w : World} {b : Nat} {o A B C : Int} {V : Nat} {M W : Int} (h : Arr w b [.int .i64 o, .int .i64 A, .int .i64 B, .int .i64 C, .int .u64 V, .int .i64 M, .int .i64 W]) : Recs insKs w (some ⟨b, 0, none⟩) [[o, A, B, C, (V : Int), M, W]] := by
  intro i r hr
  obtain rfl : i = 0 := by have := (List.getElem?_eq_some_iff.1 hr).1; simpa using this
  obtain rfl : [o, A, B, C, (V : Int), M, W] = r := by simpa using hr
  refine ⟨b, 0, rfl, h.lt, fun j z k hz hk => ?_⟩
  match j, hz, hk with
  | 0, hz, hk => cases hz; cases hk; exact h.cell 0 _ rfl
  | 1, hz, hk => cases hz; cases hk; exact h.cell 1 _ rfl
  | 2, hz, hk => cases hz; cases hk; exact h.cell 2 _ rfl
  | 3, hz, hk => cases hz; cases hk; exact h.cell 3 _ rfl
  | 4, hz, hk => cases hz; cases hk; exact h.cell 4 _ rfl
  | 5, hz, hk => cases hz; cases hk; exact h.cell 5 _ rfl
  | 6, hz, hk => cases hz; cases hk; exact h.cell 6 _ rfl
  | j + 7, hz, hk => simp at hz

theorem fit_one {r : List Int} (h : RecOk insKs r) : ∀ x ∈ [r], RecOk insKs x := fun x hx => by rw [List.mem_singleton.1 hx]; exact h
theorem recOk_of {o A B C V M W : Int} (h : (Lit.int .i64 o).wf = true ∧ (Lit.int .i64 A).wf = true ∧ (Lit.int .i64 B).wf = true ∧ (Lit.int .i64 C).wf = true ∧ (Lit.int .u64 V).wf = true ∧ (Lit.int .i64 M).wf = true ∧ (Lit.int .i64 W).wf = true) : RecOk insKs [o, A, B, C, V, M, W] := by
  obtain ⟨h0, h1, h2, h3, h4, h5, h6⟩ := h
  refine ⟨rfl, fun j z k hz hk => ?_⟩
  match j, hz, hk with
  | 0, hz, hk => cases hz; cases hk; exact h0
  | 1, hz, hk => cases hz; cases hk; exact h1
  | 2, hz, hk => cases hz; cases hk; exact h2
  | 3, hz, hk => cases hz; cases hk; exact h3
  | 4, hz, hk => cases hz; cases hk; exact h4
  | 5, hz, hk => cases hz; cases hk; exact h5
  | 6, hz, hk => cases hz; cases hk; exact h6
  | j + 7, hz, hk => simp at hz

abbrev insW (o A B C V M W : Int) : Value := .agg #[.int .i64 o, .int .i64 A, .int .i64 B, .int .i64 C, .int .u64 V, .int .i64 M, .int .i64 W]
theorem ins_self (o A B C V M W : Int) (w : World) : (Op.equalIn 10000 52 (insW o A B C V M W) (insW o A B C V M W)).run Tryd.prog w = .ok true w := by
  have u3 := Tryd.underlying3
  have u4 := Tryd.underlying47
  have a3 := Tryd.isAgg3
  have a4 := Tryd.isAgg47
  have z3 := Tryd.sizeOf3
  have z4 := Tryd.sizeOf47
  have hS : Tryd.prog.underlying 52 = some (.struct (Tryd.prog.fieldsOf 52)) := by kernel_rfl
  have hp : Tryd.prog.stoodInHeld 52 = false := by kernel_rfl
  rw [show (10000 : Nat) = 9999 + 1 from rfl, run_equalIn_agg w 9999 52 _ _ hS hp]
  simp only [Program.fieldsOf, Tryd.underlying52]
  go_simp
theorem ins_neq (o A B C V M W : Int) (w : World) : (binOp .neq 52 (insW o A B C V M W) (insW o A B C V M W)).run Tryd.prog w = .ok (.bool false) w := by
  rw [run_neq_struct, ins_self]; rfl

set_option maxRecDepth 100000 in
set_option maxHeartbeats 1000000 in
theorem codeEq_any (rs : List (List Int)) (ao bo : Option Addr) (ca cb : Nat) (w : World) (hfit : ∀ r ∈ rs, RecOk insKs r) (ha : Recs insKs w ao rs) (hb : Recs insKs w bo rs) (hm : rs.length ≤ 9223372036854775807) :
    Calls Tryd.prog 14 #[.slice ao rs.length ca, .slice bo rs.length cb] w fun e w' => e = .returned (.bool true) ∧ New w w' := by
  obtain ⟨L, hL⟩ : ∃ L, rs.length = L := ⟨_, rfl⟩
  have HA := Lib.hid ha
  have HB := Lib.hid hb
  have HFIT := Lib.hid hfit
  have HL := Lib.hid hL
  rw [hL] at hm ⊢
  clear ha hb hfit hL
  have t0 : ((L : Int) != (L : Int)) = false := by simp
  go_enter Tryd.func14, Tryd.ntmps14
  go_wp2_with fail
  go_loopw [5] (fun i wr => ∃ k : Nat, k ≤ L ∧ i = .int .i64 k ∧ New w wr) (fun i _ => L - (intOf i).toNat)
  case atStart => exact ⟨0, by omega, rfl, Fr.refl _ _⟩
  case round =>
    obtain ⟨k, hk, rfl, hn⟩ := hrel
    have HN := Lib.hid hn
    by_cases hlt : k < L
    · obtain ⟨o, A, B, C, V, M, W, g, off, e0, rfl, hg1, hV, c0, c1, c2, c3, c4, c5, c6⟩ := ins_at (k := k) (HA.out.keep hn) HFIT.out (by rw [HL.out]; exact hlt)
      obtain ⟨o', A', B', C', V', M', W', g', off', e0', rfl, hg1', hV', d0, d1, d2, d3, d4, d5, d6⟩ := ins_at (k := k) (HB.out.keep hn) HFIT.out (by rw [HL.out]; exact hlt)
      rw [e0] at e0'
      simp only [List.cons.injEq, Int.natCast_inj, and_true] at e0'
      obtain ⟨rfl, rfl, rfl, rfl, rfl, rfl, rfl⟩ := e0'
      have hne := fun w => ins_neq o A B C V M W w
      have hse := fun w => ins_self o A B C V M W w
      have hgd : Tryd.prog.eqGuardType Tryd.prog.depth 52 = false := by kernel_rfl
      have hgd2 := fun w x y xs ys => run_eqGuard_agg (P := Tryd.prog) w .neq 52 x y xs ys hgd
      clear e0 hn
      go_wp2
      go_region
      go_wp2
      go_roundw
      case rel => exact ⟨k + 1, by omega, by go_num, HN.out.drew⟩
      case measure => simp [intOf]; omega
    · clear hn
      go_wp2
      go_ret
      exact ⟨rfl, HN.out⟩

/-- The cells of an instruction. -/
def insCells (r : List Int) : List Value := (List.range 7).map fun j => Value.int (insKs.getD j .i64) (r.getD j 0)
theorem insCells_len (r : List Int) : (insCells r).length = 7 := by simp [insCells]
theorem insCells_get {r : List Int} {j : Nat} {u : Value} (h : (insCells r)[j]? = some u) (hr : r.length = 7) : ∃ z k, r[j]? = some z ∧ insKs[j]? = some k ∧ u = .int k z := by
  have hj : j < 7 := by have := (List.getElem?_eq_some_iff.1 h).1; rwa [insCells_len] at this
  refine ⟨r.getD j 0, insKs.getD j .i64, ?_, ?_, ?_⟩
  · rw [List.getD_eq_getElem?_getD, List.getElem?_eq_getElem (by omega)]; rfl
  · rw [List.getD_eq_getElem?_getD, List.getElem?_eq_getElem (by simpa using hj)]; rfl
  · have hj6 : j < insKs.length := by simpa using hj
    simp [insCells, hj] at h; rw [← h]; simp only [List.getD_eq_getElem?_getD, List.getElem?_eq_getElem hj6, Option.getD_some]
theorem insCells_of {r : List Int} {j : Nat} {z : Int} {k : IntKind} (hz : r[j]? = some z) (hk : insKs[j]? = some k) : (insCells r)[j]? = some (.int k z) := by
  have hj : j < 7 := by have := (List.getElem?_eq_some_iff.1 hk).1; simpa using this
  simp [insCells, hj, List.getD_eq_getElem?_getD, hz, hk]
  exact Option.some.inj ((List.getElem?_eq_getElem (by simpa using hj)).symm.trans hk)
theorem insInfo : (Tryd.prog.info? 52).map (fun i => (i.zero, i.size, i.bytes)) = some (some (insW 0 0 0 0 0 0 0), 7, 56) := by kernel_rfl

theorem recs_add {w : World} {ad : Addr} {rs : List (List Int)} (h : Recs insKs w (some ad) rs) (hfit : ∀ r ∈ rs, RecOk insKs r) : ∀ j u, (rs.flatMap insCells)[j]? = some u → w.cell? (ad.add j) = some u := by
  intro j u hj
  have hdm := Nat.div_add_mod j 7
  have hm := Nat.mod_lt j (show 0 < 7 by omega)
  generalize hq : j / 7 = q at hdm
  generalize j % 7 = p at hdm hm
  obtain rfl : j = q * 7 + p := by omega
  rw [get_flatMap insCells 7 insCells_len _ _ _ hm] at hj
  cases hr : rs[q]? with
  | none => simp [hr] at hj
  | some r =>
    simp [hr] at hj
    obtain ⟨z, k, h1, h2, rfl⟩ := insCells_get hj (hfit r (List.mem_of_getElem? hr)).1
    obtain ⟨b, off, e, hb, hc⟩ := h q r hr
    cases e
    have := hc p z k h1 h2
    unfold Addr.add
    split
    · rename_i h0
      obtain ⟨rfl, rfl⟩ : q = 0 ∧ p = 0 := by omega
      simpa using this
    · rw [← this]; congr 2; show off + (q * 7 + p) = off + q * 7 + p; omega
theorem recs_own {w : World} {base n : Nat} {v : Value} {rs : List (List Int)} (h : w.ownsRow base 52 7 v n (rs.flatMap insCells)) : ∃ bo cb, v = .slice bo n cb ∧ Recs insKs w bo rs := by
  obtain ⟨bo, cb, rfl, hc⟩ := owned_form h
  refine ⟨bo, cb, rfl, fun i r hr => ?_⟩
  have hat : ∀ (j : Nat) (z : Int) (k : IntKind), r[j]? = some z → insKs[j]? = some k → ∃ g, bo = some ⟨g, 0, none⟩ ∧ base ≤ g ∧ g < w.heap.size ∧ w.cell? ⟨g, i * 7 + j, none⟩ = some (.int k z) := by
    intro j z k hz hk
    have hj : j < 7 := by have := (List.getElem?_eq_some_iff.1 hk).1; simpa using this
    exact hc _ _ (by rw [get_flatMap insCells 7 insCells_len _ _ _ hj, hr]; exact insCells_of hz hk)
  have h0 : (rs.flatMap insCells)[i * 7 + 0]? = some (.int .i64 (r.getD 0 0)) := by
    rw [get_flatMap insCells 7 insCells_len _ _ _ (by omega), hr]; simp [insCells]
  obtain ⟨g, e, _, hg, _⟩ := hc _ _ h0
  refine ⟨g, 0, e, hg, fun j z k hz hk => ?_⟩
  obtain ⟨g', e', _, _, hcc⟩ := hat j z k hz hk
  rw [e] at e'
  cases e'
  rw [Nat.zero_add]; exact hcc

theorem own_lo {w : World} {B : Nat} {bo : Option Addr} {n cb : Nat} (h : ∀ k, (Value.slice bo n cb).ownBlock = some k → B ≤ k ∧ k < w.heap.size) : ∀ a, bo = some a → B ≤ a.block := by
  rintro a rfl
  exact (h a.block rfl).1
theorem Recs.keepS {ks : List IntKind} {w w' : World} {S : Nat → Prop} {ao : Option Addr} {rs : List (List Int)} (h : Recs ks w ao rs) (f : Fr S w w') (hs : ∀ a, ao = some a → ¬ S a.block) : Recs ks w' ao rs := fun i r hr => by
  obtain ⟨b, off, h1, h2, h3⟩ := h i r hr
  exact ⟨b, off, h1, Nat.lt_of_lt_of_le h2 f.size, fun j z k hz hk => (f.cell h2 (hs _ h1) _).trans (h3 j z k hz hk)⟩

set_option maxRecDepth 100000 in
set_option maxHeartbeats 1000000 in
theorem copy_any (rs : List (List Int)) (ao : Option Addr) (ca : Nat) (w : World) (hfit : ∀ r ∈ rs, RecOk insKs r) (ha : Recs insKs w ao rs) (hm : rs.length * 56 ≤ 140737488355328) :
    Calls Tryd.prog 8 #[.slice ao rs.length ca] w fun e w' => ∃ bo cb, e = .returned (.slice bo rs.length cb) ∧ Recs insKs w' bo rs ∧ (∀ a, bo = some a → w.heap.size ≤ a.block) ∧ New w w' := by
  obtain ⟨i0, hi, hz0, hz1, hz2⟩ := info_parts insInfo
  have hone : ∀ u ∈ rs.flatMap insCells, u.oneCell' = true := by
    intro u hu
    obtain ⟨r, _, hr⟩ := List.mem_flatMap.1 hu
    obtain ⟨j, _, rfl⟩ := List.mem_map.1 hr
    rfl
  have hlen := len_flatMap insCells 7 insCells_len rs
  obtain ⟨xs, hxs⟩ : ∃ xs, rs.flatMap insCells = xs := ⟨_, rfl⟩
  obtain ⟨L, hL⟩ : ∃ L, rs.length = L := ⟨_, rfl⟩
  have HFIT := Lib.hid hfit
  cases ao with
  | none =>
    have h0 : rs = [] := by
      cases rs with
      | nil => rfl
      | cons r l => obtain ⟨b, off, e, _⟩ := ha 0 r rfl; cases e
    subst h0
    clear hone hlen hxs hL ha hfit
    go_enter Tryd.func8, Tryd.ntmps8
    go_wp2
    go_ret
    exact ⟨_, _, rfl, fun i r hr => by simp at hr, (fun a ha => by cases ha), Fr.refl _ _⟩
  | some ad =>
    have hnews := recs_add ha hfit
    rw [hxs] at hnews hone hlen
    rw [hL] at hlen hm ⊢
    have HXS := Lib.hid hxs
    have HN := Lib.hid hnews
    have HO := Lib.hid hone
    have HLEN := Lib.hid hlen
    clear hnews hone hlen hxs hL ha hfit
    go_enter Tryd.func8, Tryd.ntmps8
    go_wp2_with (at_builtin; refine wpList_append_own _ rfl (.const (.slice none 0 0)) (.tmp 3) 22 rfl w.heap.size 52 i0 _ 7 56 Tryd.underlying22 hi hz0 hz1 hz2 rfl (by decide) _ 0 [] rfl (World.ownsRow_nil _ _ _ _) ad L ca xs rfl HLEN.out HN.out HO.out (by unfold maxLen; omega) (by omega) (Nat.le_refl _) ?_; intro v' w1 hown' hgrow hnil; rw [Nat.zero_add, List.nil_append, ← HXS.out] at hown'; have hlo := hown'.lt; obtain ⟨bo, cb, rfl, hrec⟩ := recs_own hown'; have HBO := Lib.hid (own_lo hlo); have HR := Lib.hid hrec; have HG := Lib.hid ((Fr.refl (fun _ => False) w).grown hgrow (fun k h => by cases h)); clear hown' hgrow hnil hrec hlo)
    go_ret
    exact ⟨bo, cb, rfl, HR.out, HBO.out, HG.out⟩

end Go.Proofs.YtngpcalgjaglmaaDoor
