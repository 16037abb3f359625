/- A block is taken where one fits. -/
import Derived.Test.YtlmjogfjhngcoaaDoorAllocB
namespace Go.Proofs.YtlmjogfjhngcoaaDoor
open Go.RowKit

theorem blkInfo : (Tryd.prog.info? 43).map (fun i => (i.zero, i.size, i.bytes)) = some (some (.agg #[.int .i64 0, .int .i64 0, .int .i64 0]), 3, 24) := by kernel_rfl
theorem blkSize : (Tryd.prog.info? 43).map (·.size) = some 3 := by kernel_rfl
theorem bC_one (l : List Bk) : ∀ u ∈ l.flatMap bC, u.oneCell' = true := by
  intro u hu
  obtain ⟨b, _, hb⟩ := List.mem_flatMap.1 hu
  simp only [bC, List.mem_cons, List.not_mem_nil, or_false] at hb
  rcases hb with rfl | rfl | rfl <;> rfl
/-- Three cells of a block are written. -/
theorem Room.put {w : World} {g cap q : Nat} {L : List Bk} {r x : Bk} (h : Room w g cap L) (hq : L[q]? = some r) :
    Room (((w.setCell ⟨g, q * 3, none⟩ (.int .i64 x.pos)).setCell ⟨g, q * 3 + 1, none⟩ (.int .i64 x.num)).setCell ⟨g, q * 3 + 2, none⟩ (.int .i64 x.wid)) g cap (L.set q x) := by
  have hl := (List.getElem?_eq_some_iff.1 hq).1
  have e0 := h.set (i := 0) (r' := ⟨x.pos, r.num, r.wid⟩) (v := .int .i64 x.pos) hq (by omega) rfl
  have e1 := e0.set2 (i := 1) (r' := ⟨x.pos, x.num, r.wid⟩) (v := .int .i64 x.num) hl (by omega) rfl
  exact e1.set2 (i := 2) (r' := x) (v := .int .i64 x.wid) hl (by omega) rfl

/-- What Get answers where a row is long enough: the memory may refuse it. -/
def GotIt (w : World) (ab mb cb wb : Nat) (v : Value) (F T : Int) (l : List Bk) (ws : List Nat) (n W : Int) (i : Nat) (P : Int) (oe : Option (Int × Int)) (e : Ending) (w' : World) : Prop :=
  ∃ x v', e = .returned (.tuple #[.int .i64 (if oe = none then P else 0), x]) ∧ Tells w' x (inL alL P memL oe) ∧
    (if oe = none then AM w' ab mb cb wb v' F T (insA l i ⟨P, n, W⟩) (fill ws P.toNat n.toNat W.toNat) else v' = v ∧ AM w' ab mb cb wb v F T l ws) ∧
    Fr (fun k => oe = none ∧ OwnA ab mb cb wb v k) w w' ∧ (∀ k, v'.ownBlock = some k → v.ownBlock = some k ∨ w.heap.size ≤ k)
section
variable {w w' : World} {ab mb cb wb i : Nat} {v v' x : Value} {F T n W P p q : Int} {l : List Bk} {ws : List Nat}
theorem got_err (h : AM w ab mb cb wb v F T l ws) (hx : Tells w' x (some ([(alL, P), (memL, p)], q))) (hn : New w w') : GotIt w ab mb cb wb v F T l ws n W i P (some (p, q)) (.returned (.tuple #[.int .i64 0, x])) w' :=
  ⟨x, v, by rw [if_neg (by simp)], hx, by rw [if_neg (by simp)]; exact ⟨rfl, h.new hn⟩, hn.mono (fun _ _ h => h.elim), fun k hk => .inl hk⟩
theorem got_ok (h : AM w' ab mb cb wb v' F T (insA l i ⟨P, n, W⟩) (fill ws P.toNat n.toNat W.toNat)) (hf : Fr (OwnA ab mb cb wb v) w w') (ho : ∀ k, v'.ownBlock = some k → v.ownBlock = some k ∨ w.heap.size ≤ k) :
    GotIt w ab mb cb wb v F T l ws n W i P none (.returned (.tuple #[.int .i64 P, .nilIface])) w' :=
  ⟨.nilIface, v', by rw [if_pos rfl], rfl, by rw [if_pos rfl]; exact h, hf.mono (fun _ _ h => ⟨rfl, h⟩), ho⟩
end

theorem addr_add2 (g o j : Nat) : (⟨g, o, none⟩ : Addr).add j = ⟨g, o + j, none⟩ := by unfold Addr.add; split <;> simp_all
theorem own_len (ao : Option Addr) (a b c : Nat) : (Value.slice ao a c).ownBlock = (Value.slice ao b c).ownBlock := by cases ao <;> rfl
theorem got_fin {w w3 w4 W5 w6 : World} {ab mb cb wb g cap i : Nat} {v : Value} {F T n W P : Int} {l L1 : List Bk} {ws cs' : List Nat} {r : Bk}
    (hap : ab ≠ mb ∧ ab ≠ cb ∧ ab ≠ wb ∧ ∀ k, v.ownBlock = some k → k ≠ mb ∧ k ≠ cb ∧ k ≠ wb) (hm3 : MemRep w3 mb cb wb cs' (fill ws P.toNat n.toNat W.toNat) (cnt (fill ws P.toNat n.toNat W.toNat)) 0)
    (f3 : Fr (OwnA ab mb cb wb v) w w3) (f4 : Fr (fun kk => v.ownBlock = some kk) w3 w4) (f5 : Fr (· = ab) w4 W5) (hb5 : W5.heap[ab]? = some (.cells #[.pointer (some ⟨mb, 0, none⟩), .int .i64 F, .int .i64 T, .slice (some ⟨g, 0, none⟩) (l.length + 1) cap] 74 (0, 0)))
    (f6 : Fr (· = g) W5 w6) (hr6 : Room w6 g cap L1) (hr : L1[i]? = some r) (hL1 : ∀ x, L1.set i x = insA l i x) (hgl : v.ownBlock = some g ∨ g = w3.heap.size + 1) (hga : g ≠ ab) (hfit : Fits F T (insA l i ⟨P, n, W⟩)) (hfew : l.length + 1 ≤ 100000) :
    GotIt w ab mb cb wb v F T l ws n W i P none (.returned (.tuple #[.int .i64 P, .nilIface])) (((w6.setCell ⟨g, i * 3, none⟩ (.int .i64 P)).setCell ⟨g, i * 3 + 1, none⟩ (.int .i64 n)).setCell ⟨g, i * 3 + 2, none⟩ (.int .i64 W)) := by
  have hp := hr6.put (x := ⟨P, n, W⟩) hr
  rw [hL1] at hp
  have hne := hm3.ne
  have l1 := hm3.hd.lt
  have l2 := hm3.cells.lt
  have l3 := hm3.widths.lt
  have gm : g ≠ mb ∧ g ≠ cb ∧ g ≠ wb := by
    rcases hgl with h | h
    · exact hap.2.2.2 g h
    · omega
  have f7 : Fr (· = g) w6 (((w6.setCell ⟨g, i * 3, none⟩ (.int .i64 P)).setCell ⟨g, i * 3 + 1, none⟩ (.int .i64 n)).setCell ⟨g, i * 3 + 2, none⟩ (.int .i64 W)) :=
    ((Fr.setCell (S := (· = g)) (Fr.refl _ _) (fun _ => by rfl) _).setCell (fun _ => by rfl) _).setCell (fun _ => by rfl) _
  have f67 := f6.trans f7
  generalize ((w6.setCell ⟨g, i * 3, none⟩ (.int .i64 P)).setCell ⟨g, i * 3 + 1, none⟩ (.int .i64 n)).setCell ⟨g, i * 3 + 2, none⟩ (.int .i64 W) = W7 at hp f67 ⊢
  have hown := hp.own
  rw [insA_len] at hown
  refine got_ok (v' := .slice (some ⟨g, 0, none⟩) (l.length + 1) cap) ⟨⟨by rw [f67.block ab (lt_of_block hb5) (fun e => hga e.symm)]; exact hb5, by rw [insA_len]; exact hown, hfit, by rw [insA_len]; exact hfew⟩, ⟨cs', ((hm3.keep f4 (fun e => (hap.2.2.2 _ e).1 rfl) (fun e => (hap.2.2.2 _ e).2.1 rfl) (fun e => (hap.2.2.2 _ e).2.2 rfl)).keep f5 (fun e => hap.1 e.symm) (fun e => hap.2.1 e.symm) (fun e => hap.2.2.1 e.symm)).keep f67 (fun e => gm.1 e.symm) (fun e => gm.2.1 e.symm) (fun e => gm.2.2 e.symm)⟩, hap.1, hap.2.1, hap.2.2.1, fun k hk => ?_⟩ ?_ (fun k hk => ?_)
  · obtain rfl : g = k := by simpa [Value.ownBlock] using hk
    exact gm
  · refine ((f3.then f4 (fun k _ hk => .inr (.inr (.inr (.inr hk))))).then f5 (fun k _ hk => .inl hk)).then f67 (fun k hk e => ?_)
    subst e
    rcases hgl with h | h
    · exact .inr (.inr (.inr (.inr h)))
    · have := f3.size; omega
  · obtain rfl : g = k := by simpa [Value.ownBlock] using hk
    rcases hgl with h | h
    · exact .inl h
    · have := f3.size; exact .inr (by omega)

set_option maxRecDepth 100000 in
set_option maxHeartbeats 8000000 in
theorem get_some (ab mb cb wb : Nat) (v : Value) (F T : Int) (l : List Bk) (ws : List Nat) (n W : Int) (i : Nat) (w : World) (h : AM w ab mb cb wb v F T l ws) (hg : ¬ badArg n W) (hi : getI F T l n = some i) (hfw : l.length < 100000) :
    Calls Tryd.prog 11 #[.pointer (some ⟨ab, 0, none⟩), .int .i64 n, .int .i64 W] w fun e w' => GotIt w ab mb cb wb v F T l ws n W i (endA F l i) (mapErr ws (endA F l i) n W) e w' := by
  obtain ⟨g1, g2, g3⟩ := goodArg hg
  obtain ⟨hil, hgi, hlt⟩ := getI_some hi
  have hst := fun i => h.a.fit.start i
  have hen := fun i (hi : i ≤ l.length) => h.a.fit.end_ hi
  have hlo := h.a.fit.lo
  obtain ⟨x, hx⟩ : ∃ x, (W != 32) = x := ⟨_, rfl⟩
  obtain ⟨y, hy⟩ : ∃ y, (W != 64) = y := ⟨_, rfl⟩
  have hxy : x = false ∨ (x = true ∧ y = false) := by
    rcases g3 with rfl | rfl
    · exact .inl (by rw [← hx]; rfl)
    · exact .inr ⟨by rw [← hx]; rfl, by rw [← hy]; rfl⟩
  obtain ⟨ao, ca, rfl, _⟩ := owned_form h.a.own
  obtain ⟨i0, hi0, hz0, hz1, hz2⟩ := info_parts blkInfo
  obtain ⟨cs, hm⟩ := h.m
  have hap := h.ap
  have hei := hen i hil
  have hwl := cnt_small hm
  have hMAP := fun w' (f : New w w') => map_any mb cb wb cs ws (cnt ws) 0 (endA F l i) n W w' (hm.keep f id id id) (by omega) (fun he => by
    have := (map_cnt he).1
    have := cnt_le (fill ws (endA F l i).toNat n.toNat W.toNat)
    rw [fill_len] at this; omega)
  have hmc := fun (he : mapErr ws (endA F l i) n W = none) => (map_cnt he).1
  have hfi := h.a.fit.ins hil g1 hgi (W := W)
  obtain ⟨N, hN⟩ : ∃ N, l.length = N := ⟨_, rfl⟩
  have H := Lib.hid h
  have HN := Lib.hid hN
  have HLT := Lib.hid hlt
  have HST := Lib.hid hst
  have HEN := Lib.hid hen
  have HMAP := Lib.hid hMAP
  have HMC := Lib.hid hmc
  have HFI := Lib.hid hfi
  have HAP := Lib.hid hap
  have HGI := Lib.hid hgi
  rw [hN] at hfw hil
  obtain ⟨P, hP⟩ : ∃ P, endA F l i = P := ⟨_, rfl⟩
  have HP := Lib.hid hP
  rw [hP] at HMAP HMC HFI ⊢
  generalize hoe : mapErr ws P n W = oe at HMAP HMC ⊢
  clear h hg hi hlt hst hen hN g3 hm hMAP hmc hfi hgi hP hap hoe
  rcases hxy with rfl | ⟨rfl, rfl⟩
  all_goals
    go_enter Tryd.func11, Tryd.ntmps11
    go_wp2_with fail
    go_loopw [8] (fun j wr => ∃ k : Nat, k ≤ i ∧ j = .int .i64 k ∧ New w wr) (fun j _ => N + 1 - (intOf j).toNat)
    case atStart => exact ⟨0, by omega, rfl, Fr.refl _ _⟩
    case round =>
      obtain ⟨k, hk, rfl, hn⟩ := hrel
      have HR := Lib.hid (H.out.a.new hn)
      have c3 : wr.cell? ⟨ab, 3, none⟩ = some (.slice ao N ca) := by have := cell_of_block HR.out.hd 3; rw [HN.out] at this; exact this
      have HNW := Lib.hid hn
      have hE := aend_any ab mb _ F T l k wr HR.out (by rw [HN.out]; omega)
      have hS := fun w' (f : New wr w') => astart_any ab mb _ F T l k w' (HR.out.new f) (by rw [HN.out]; omega)
      have hs := HST.out k
      have he := HEN.out k (by rw [HN.out]; omega)
      clear hn
      by_cases hlt : k < i
      · have hg := HLT.out k hlt
        unfold gapA at hg
        generalize endA F l k = E at hE hg he
        generalize startA T l k = S at hS hg hs
        have HE := Lib.hid hE
        have HS := Lib.hid hS
        clear hE hS
        go_wp2_with fail
        refine HE.out.mono ?_
        rintro e w1 ⟨rfl, hn1⟩
        have HN1 := Lib.hid hn1
        clear hn1
        go_wp2_with fail
        refine (HS.out w1 HN1.out).mono ?_
        rintro e w2 ⟨rfl, hn2⟩
        have HN2 := Lib.hid (HNW.out.trans (HN1.out.trans hn2))
        clear hn2
        go_wp2
        go_roundw
        case rel => exact ⟨k + 1, by omega, by go_num, HN2.out⟩
        case measure => simp [intOf]; omega
      · obtain rfl : i = k := by omega
        have hg := HGI.out
        unfold gapA at hg
        rw [HP.out] at hE hg he
        generalize startA T l i = S at hS hg hs
        have HE := Lib.hid hE
        have HS := Lib.hid hS
        clear hE hS
        go_wp2_with fail
        refine HE.out.mono ?_
        rintro e w1 ⟨rfl, hn1⟩
        have HN1 := Lib.hid hn1
        clear hn1
        go_wp2_with fail
        refine (HS.out w1 HN1.out).mono ?_
        rintro e w2 ⟨rfl, hn2⟩
        have HN2 := Lib.hid (HNW.out.trans (HN1.out.trans hn2))
        have HR2 := Lib.hid (HR.out.new (HN1.out.trans hn2))
        have c0 : w2.cell? ⟨ab, 0, none⟩ = some (.pointer (some ⟨mb, 0, none⟩)) := cell_of_block HR2.out.hd 0
        clear hn2 HE HS HR
        go_wp2_with fail
        refine (HMAP.out w2 HN2.out).mono ?_
        rintro e w3 ⟨x, rfl, hx, hm3, hf3⟩
        cases oe with
        | some o =>
          obtain ⟨p, q⟩ := o
          have HX := Lib.hid hx
          obtain ⟨eb, rfl⟩ := Says.at hx
          have hn3 : New w2 w3 := hf3.mono (fun _ _ h => by cases h.1)
          have HN3 := Lib.hid (HN2.out.trans hn3)
          clear hx hm3 hf3 hn3 c0
          go_wp2_with fail
          refine (afail_in P _ memL p q w3 HX.out).mono ?_
          rintro e w4 ⟨x4, rfl, hx4, hn4⟩
          have HX4 := Lib.hid hx4
          have HN4 := Lib.hid (HN3.out.trans hn4)
          clear hx4 hn4
          go_wp2
          go_ret2
          exact got_err H.out HX4.out HN4.out
        | none =>
          obtain rfl : x = .nilIface := hx
          simp only [if_true] at hm3
          obtain ⟨th', hm3, hth⟩ := hm3
          have hth2 : th' = cnt (fill ws P.toNat n.toNat W.toNat) := by have := HMC.out rfl; omega
          subst hth2
          have ha3 := HR2.out.keep hf3 (fun e => by have := HAP.out; have := e.2; omega) (fun k hk e => by have := HAP.out.2.2.2 k hk; have := e.2; omega)
          have HM3 := Lib.hid hm3
          have HA3 := Lib.hid ha3
          have F3 := Lib.hid (show Fr (OwnA ab mb cb wb (.slice ao l.length ca)) w w3 from (HN2.out.mono (fun _ _ h => h.elim)).trans (hf3.mono (fun k _ e => by
            rcases e.2 with e | e | e
            · exact .inr (.inl e)
            · exact .inr (.inr (.inl e))
            · exact .inr (.inr (.inr (.inl e))))))
          have d3 : w3.cell? ⟨ab, 3, none⟩ = some (.slice ao N ca) := by have := cell_of_block ha3.hd 3; rw [HN.out] at this; exact this
          have la3 := lt_of_block ha3.hd
          have HO3 := Lib.hid (show w3.ownsRow 0 43 3 (.slice ao N ca) N (l.flatMap bC) by have := ha3.own; rw [HN.out] at this; exact this)
          have hne := ha3.ne
          rw [HN.out] at hne
          have HNE := Lib.hid hne
          clear hm3 ha3 hf3 hth c0 hx hne HMAP HN1
          go_wp2_with (at_builtin; go_loud (refine wpList_append_lies _ rfl (.tmp 63) (.tmp 65) 40 rfl 0 43 i0 _ 3 24 Tryd.underlying40 hi0 hz0 hz1 hz2 rfl (by decide) _ _ _ rfl (HO3.out.alloc _) ⟨w3.heap.size, 0, none⟩ 1 1 (bC ⟨0, 0, 0⟩) rfl rfl (Arr.add (Arr.new _ _ _)) (by simp [bC, Value.oneCell']) (by omega) (by unfold maxLen; omega) (by omega) (Nat.zero_le _) _ rfl ?_; intro g cap w4 hown hgrow hgl hlt4; have f4 : Fr (fun kk => (Value.slice ao N ca).ownBlock = some kk) w3 w4 := ((Fr.refl _ w3).alloc _).grown hgrow (fun kk hkk _ => hkk); have hb4 : w4.heap[ab]? = some (.cells #[.pointer (some ⟨mb, 0, none⟩), .int .i64 F, .int .i64 T, .slice ao l.length ca] 74 (0, 0)) := (by rw [f4.block ab la3 (fun e => HNE.out _ e rfl)]; exact HA3.out.hd); have HOWN := Lib.hid hown; have F4 := Lib.hid f4; have HGL := Lib.hid (show (Value.slice ao N ca).ownBlock = some g ∨ g = w3.heap.size + 1 from (by rw [World.size_alloc] at hgl; exact hgl)); have HB4 := Lib.hid hb4; have y3 := cell_of_block hb4 3; have yf := free_of_block hb4 3; clear hown hgrow hgl f4 hb4))
          have hr4 : Room w4 g cap (l ++ [(⟨0, 0, 0⟩ : Bk)]) := Room.of (by rw [List.length_append, HN.out, List.flatMap_append]; simpa using HOWN.out)
          obtain ⟨W5, hW5⟩ : ∃ W5, (w4.setCell ⟨ab, 3, none⟩ (.slice (some ⟨g, 0, none⟩) (N + 1) cap)).drew = W5 := ⟨_, rfl⟩
          have hb5 : W5.heap[ab]? = some (.cells #[.pointer (some ⟨mb, 0, none⟩), .int .i64 F, .int .i64 T, .slice (some ⟨g, 0, none⟩) (N + 1) cap] 74 (0, 0)) := by rw [← hW5]; exact block_setCell HB4.out _
          obtain ⟨cur, k1, k2, k3⟩ := hr4.ex
          have hga : g ≠ ab := by
            rintro rfl
            rw [HB4.out] at k1
            simp at k1
          have k5 : W5.heap[g]? = some (.cells cur 43 (0, 0)) := by rw [← hW5]; exact (block_setCell_ne hga _).trans k1
          have hcap := hr4.le
          rw [List.length_append, HN.out] at hcap
          simp only [List.length_cons, List.length_nil, Nat.zero_add] at hcap
          have f5 : Fr (· = ab) w4 W5 := by rw [← hW5]; exact (Fr.setCell (S := (· = ab)) (Fr.refl _ _) (fun _ => by rfl) _).drew
          have s0 : W5.cell? ⟨ab, 3, none⟩ = some (.slice (some ⟨g, 0, none⟩) (N + 1) cap) := cell_of_block hb5 3
          have HB5 := Lib.hid hb5
          have HK5 := Lib.hid k5
          have F5 := Lib.hid f5
          have HK2 := Lib.hid k2
          have HK3 := Lib.hid k3
          refine heldStart (fun W' => W'.cell? ⟨ab, 3, none⟩ = some (.slice (some ⟨g, 0, none⟩) (N + 1) cap)) (by kernel_rfl) ?_
          rw [hW5]
          clear hW5 hr4 hb5 k1 k2 k3 k5 f5 y3 yf d3
          have hfl : ((l.drop i).flatMap bC).length = (N - i) * 3 := by rw [len_flatMap bC 3 bC_len, List.length_drop, HN.out]
          have hsz : i * 3 + 3 + (N - i) * 3 ≤ cap * 3 := by omega
          have HFL := Lib.hid hfl
          have hsrc : ∀ (j : Nat) (u : Value), ((l.drop i).flatMap bC)[j]? = some u → W5.cell? ⟨g, i * 3 + j, none⟩ = some u := by
            intro j u hj
            have hjl := (List.getElem?_eq_some_iff.1 hj).1
            rw [hfl] at hjl
            rw [cell_of_block HK5.out]
            have e1 : (cur.toList.take ((l ++ [(⟨0, 0, 0⟩ : Bk)]).length * 3))[i * 3 + j]? = some u := by
              rw [HK3.out, List.flatMap_append, List.getElem?_append_left (by rw [len_flatMap bC 3 bC_len, HN.out]; omega), ← hj, ← flat_drop' bC 3 bC_len, List.getElem?_drop]
            rw [List.getElem?_take_of_lt (by rw [List.length_append, HN.out]; simp; omega), Array.getElem?_toList] at e1
            exact e1
          have HSRC := Lib.hid hsrc
          clear hfl hsrc
          have hcur : ∀ (w' : World), w'.heap[g]? = some (.cells (cur.toList.take ((i + 1) * 3) ++ (l.drop i).flatMap bC ++ cur.toList.drop ((i + 1) * 3 + ((l.drop i).flatMap bC).length)).toArray 43 (0, 0)) → Room w' g cap ((l ++ [(⟨0, 0, 0⟩ : Bk)]).take (i + 1) ++ l.drop i) := fun w' hw => Room.up (by rw [HN.out]; exact hil) (by rw [HN.out]; exact hcap) HK2.out (by have := HK3.out; rw [List.length_append] at this; exact this) hw
          have HCUR := Lib.hid hcur
          clear hcur
          have t1 : IntKind.i64.wrap ((i : Int) + 1) = (i : Int) + 1 := by rw [IntKind.wrap_i64]; omega
          have t2 : ((i : Int) + 1).toNat = i + 1 := by omega
          have t3 : (0 : Int) ≤ (i : Int) + 1 := by omega
          have t4 : (i : Int) + 1 ≤ (N : Int) + 1 := by omega
          have t6 : (i : Int) ≤ (N : Int) + 1 := by omega
          have t7 : ¬ cap = i := by omega
          by_cases hcc : cap = i + 1
          · obtain rfl : i = N := by omega
            subst hcc
            refine wpAnyH_take (i := 0) (v := ?_) rfl (by kernel_rfl) (by kernel_rfl) (by kernel_rfl) (fun _ _ _ h => h) (Or.inl ⟨by rfl, ?_⟩) s0 ?_
            rotate_left
            · intro w hSw; first | (obtain ⟨s1, s2, s3, s4, s5, s6, s7, s8⟩ := hSw; go_simp; rfl) | (obtain ⟨s1, s2, s3, s4, s5, s6, s7⟩ := hSw; go_simp; rfl) | (obtain ⟨s1, s2, s3⟩ := hSw; go_simp; rfl) | (obtain ⟨s1, s2⟩ := hSw; go_simp; rfl) | (have s1 := hSw; go_simp; rfl)
            go_simp
            refine wpAnyH_take (i := 1) (v := ?_) rfl (by kernel_rfl) (by kernel_rfl) (by kernel_rfl) (fun _ _ _ h => h) (Or.inl ⟨by rfl, ?_⟩) s0 ?_
            rotate_left
            · intro w hSw; first | (obtain ⟨s1, s2, s3, s4, s5, s6, s7, s8⟩ := hSw; go_simp; rfl) | (obtain ⟨s1, s2, s3, s4, s5, s6, s7⟩ := hSw; go_simp; rfl) | (obtain ⟨s1, s2, s3⟩ := hSw; go_simp; rfl) | (obtain ⟨s1, s2⟩ := hSw; go_simp; rfl) | (have s1 := hSw; go_simp; rfl)
            go_simp
            refine wpAnyH_take (i := 2) (v := ?_) rfl (by kernel_rfl) (by kernel_rfl) (by kernel_rfl) (fun _ _ _ h => h) (Or.inl ⟨by rfl, ?_⟩) s0 ?_
            rotate_left
            · intro w hSw; first | (obtain ⟨s1, s2, s3, s4, s5, s6, s7, s8⟩ := hSw; go_simp; rfl) | (obtain ⟨s1, s2, s3, s4, s5, s6, s7⟩ := hSw; go_simp; rfl) | (obtain ⟨s1, s2, s3⟩ := hSw; go_simp; rfl) | (obtain ⟨s1, s2⟩ := hSw; go_simp; rfl) | (have s1 := hSw; go_simp; rfl)
            go_simp
            refine wpAnyH_take (i := 3) (v := ?_) rfl (by kernel_rfl) (by kernel_rfl) (by kernel_rfl) (fun _ _ _ h => h) (Or.inl ⟨by rfl, ?_⟩) s0 ?_
            rotate_left
            · intro w hSw; first | (obtain ⟨s1, s2, s3, s4, s5, s6, s7, s8⟩ := hSw; go_simp; rfl) | (obtain ⟨s1, s2, s3, s4, s5, s6, s7⟩ := hSw; go_simp; rfl) | (obtain ⟨s1, s2, s3⟩ := hSw; go_simp; rfl) | (obtain ⟨s1, s2⟩ := hSw; go_simp; rfl) | (have s1 := hSw; go_simp; rfl)
            go_simp
            refine wpAnyH_take (i := 4) (v := ?_) rfl (by kernel_rfl) (by kernel_rfl) (by kernel_rfl) (fun _ _ _ h => h) (Or.inl ⟨by rfl, ?_⟩) s0 ?_
            rotate_left
            · intro w hSw; first | (obtain ⟨s1, s2, s3, s4, s5, s6, s7, s8⟩ := hSw; go_simp; rfl) | (obtain ⟨s1, s2, s3, s4, s5, s6, s7⟩ := hSw; go_simp; rfl) | (obtain ⟨s1, s2, s3⟩ := hSw; go_simp; rfl) | (obtain ⟨s1, s2⟩ := hSw; go_simp; rfl) | (have s1 := hSw; go_simp; rfl)
            go_simp
            refine wpAnyH_take (i := 5) (v := ?_) rfl (by kernel_rfl) (by kernel_rfl) (by kernel_rfl) (fun _ _ _ h => h) (Or.inl ⟨by rfl, ?_⟩) s0 ?_
            rotate_left
            · intro w hSw; first | (obtain ⟨s1, s2, s3, s4, s5, s6, s7, s8⟩ := hSw; go_simp; rfl) | (obtain ⟨s1, s2, s3, s4, s5, s6, s7⟩ := hSw; go_simp; rfl) | (obtain ⟨s1, s2, s3⟩ := hSw; go_simp; rfl) | (obtain ⟨s1, s2⟩ := hSw; go_simp; rfl) | (have s1 := hSw; go_simp; rfl)
            go_simp
            refine wpAnyH_take (i := 6) (v := ?_) rfl (by kernel_rfl) (by kernel_rfl) (by kernel_rfl) (fun _ _ _ h => h) (Or.inl ⟨by rfl, ?_⟩) s0 ?_
            rotate_left
            · intro w hSw; first | (obtain ⟨s1, s2, s3, s4, s5, s6, s7, s8⟩ := hSw; go_simp; rfl) | (obtain ⟨s1, s2, s3, s4, s5, s6, s7⟩ := hSw; go_simp; rfl) | (obtain ⟨s1, s2, s3⟩ := hSw; go_simp; rfl) | (obtain ⟨s1, s2⟩ := hSw; go_simp; rfl) | (have s1 := hSw; go_simp; rfl)
            go_simp
            refine wpAnyH_take (i := 7) (v := ?_) rfl (by kernel_rfl) (by kernel_rfl) (by kernel_rfl) (fun _ _ _ h => h) (Or.inl ⟨by rfl, ?_⟩) s0 ?_
            rotate_left
            · intro w hSw; first | (obtain ⟨s1, s2, s3, s4, s5, s6, s7, s8⟩ := hSw; go_simp; rfl) | (obtain ⟨s1, s2, s3, s4, s5, s6, s7⟩ := hSw; go_simp; rfl) | (obtain ⟨s1, s2, s3⟩ := hSw; go_simp; rfl) | (obtain ⟨s1, s2⟩ := hSw; go_simp; rfl) | (have s1 := hSw; go_simp; rfl)
            go_simp
            refine wpAnyH_take (i := 8) (v := ?_) rfl (by kernel_rfl) (by kernel_rfl) (by kernel_rfl) (fun _ _ _ h => h) (Or.inl ⟨by rfl, ?_⟩) s0 ?_
            rotate_left
            · intro w hSw; first | (obtain ⟨s1, s2, s3, s4, s5, s6, s7, s8⟩ := hSw; go_simp; rfl) | (obtain ⟨s1, s2, s3, s4, s5, s6, s7⟩ := hSw; go_simp; rfl) | (obtain ⟨s1, s2, s3⟩ := hSw; go_simp; rfl) | (obtain ⟨s1, s2⟩ := hSw; go_simp; rfl) | (have s1 := hSw; go_simp; rfl)
            go_simp
            refine wpAnyH_take (i := 9) (v := ?_) rfl (by kernel_rfl) (by kernel_rfl) (by kernel_rfl) (fun _ _ _ h => h) (Or.inl ⟨by rfl, ?_⟩) s0 ?_
            rotate_left
            · intro w hSw; first | (obtain ⟨s1, s2, s3, s4, s5, s6, s7, s8⟩ := hSw; go_simp; rfl) | (obtain ⟨s1, s2, s3, s4, s5, s6, s7⟩ := hSw; go_simp; rfl) | (obtain ⟨s1, s2, s3⟩ := hSw; go_simp; rfl) | (obtain ⟨s1, s2⟩ := hSw; go_simp; rfl) | (have s1 := hSw; go_simp; rfl)
            go_simp
            refine wpAnyH_take (i := 10) (v := ?_) rfl (by kernel_rfl) (by kernel_rfl) (by kernel_rfl) (fun _ _ _ h => h) (Or.inl ⟨by rfl, ?_⟩) s0 ?_
            rotate_left
            · intro w hSw; first | (obtain ⟨s1, s2, s3, s4, s5, s6, s7, s8⟩ := hSw; go_simp; rfl) | (obtain ⟨s1, s2, s3, s4, s5, s6, s7⟩ := hSw; go_simp; rfl) | (obtain ⟨s1, s2, s3⟩ := hSw; go_simp; rfl) | (obtain ⟨s1, s2⟩ := hSw; go_simp; rfl) | (have s1 := hSw; go_simp; rfl)
            go_simp
            refine wpAnyH_take (i := 11) (v := ?_) rfl (by kernel_rfl) (by kernel_rfl) (by kernel_rfl) (fun _ _ _ h => h) (Or.inl ⟨by rfl, ?_⟩) s0 ?_
            rotate_left
            · intro w hSw; first | (obtain ⟨s1, s2, s3, s4, s5, s6, s7, s8⟩ := hSw; go_simp; rfl) | (obtain ⟨s1, s2, s3, s4, s5, s6, s7⟩ := hSw; go_simp; rfl) | (obtain ⟨s1, s2, s3⟩ := hSw; go_simp; rfl) | (obtain ⟨s1, s2⟩ := hSw; go_simp; rfl) | (have s1 := hSw; go_simp; rfl)
            go_simp
            refine wpAnyH_take (i := 12) (v := ?_) rfl (by kernel_rfl) (by kernel_rfl) (by kernel_rfl) (fun _ _ _ h => h) (Or.inl ⟨by rfl, ?_⟩) s0 ?_
            rotate_left
            · intro w hSw; first | (obtain ⟨s1, s2, s3, s4, s5, s6, s7, s8⟩ := hSw; go_simp; rfl) | (obtain ⟨s1, s2, s3, s4, s5, s6, s7⟩ := hSw; go_simp; rfl) | (obtain ⟨s1, s2, s3⟩ := hSw; go_simp; rfl) | (obtain ⟨s1, s2⟩ := hSw; go_simp; rfl) | (have s1 := hSw; go_simp; rfl)
            go_simp
            refine heldOne (i := 13) (by kernel_rfl) rfl (by rfl) (fun K hK => ?_)
            refine wp_copy_rows _ (.tmp 75) (.tmp 81) 40 40 rfl 43 3 Tryd.underlying40 blkSize (by omega) _ _ _ _ _ _ rfl rfl g ((i + 1) * 3) cur 43 HK5.out ((l.drop i).flatMap bC) (by rw [HFL.out]; show _ = min _ _ * 3; omega) (fun h => absurd h (by rw [HFL.out]; omega)) (by rw [HFL.out, HK2.out]; omega) (bC_one _) ?_
            intro w6 hw6 hf6
            have R6 := Lib.hid (HCUR.out w6 hw6)
            have F6 := Lib.hid hf6
            refine hK.out _ _ ((hf6.cell (lt_of_block HB5.out) (fun e => hga e.symm) _).trans s0) ?_
            clear hK K hw6 s0
            refine wpAnyH_done (by kernel_rfl) ?_ _
            have z3 : w6.cell? ⟨ab, 3, none⟩ = some (.slice (some ⟨g, 0, none⟩) (i + 1) (i + 1)) := (hf6.cell (lt_of_block HB5.out) (fun e => hga e.symm) _).trans (cell_of_block HB5.out 3)
            obtain ⟨r, hr⟩ : ∃ r, ((l ++ [(⟨0, 0, 0⟩ : Bk)]).take (i + 1) ++ l.drop i)[i]? = some r := ⟨_, List.getElem?_eq_getElem (by simp [HN.out] <;> omega)⟩
            obtain ⟨g', eg, hgl2, hrow⟩ := flat_at bC 3 bC_len R6.out.own hr (by omega)
            obtain rfl : g = g' := by simpa using eg
            have r0 : w6.cell? ⟨g, i * 3, none⟩ = some (.int .i64 r.pos) := hrow 0 _ rfl
            have r1 : w6.cell? ⟨g, i * 3 + 1, none⟩ = some (.int .i64 r.num) := hrow 1 _ rfl
            have r2 : w6.cell? ⟨g, i * 3 + 2, none⟩ = some (.int .i64 r.wid) := hrow 2 _ rfl
            have rf : ∀ o, w6.frozen? ⟨g, o, none⟩ = false := by obtain ⟨cur6, c1, _⟩ := R6.out.ex; exact free_of_block c1
            have HRR := Lib.hid hr
            clear hr hrow eg hf6
            go_wp2
            go_ret2
            have hN := HN.out
            subst hN
            exact got_fin HAP.out HM3.out F3.out (by have := F4.out; exact this) F5.out HB5.out F6.out R6.out HRR.out (fun x => up_set (by omega)) HGL.out hga HFI.out (by omega)
          · have hcc2 : i + 1 < cap := by omega
            refine wpAnyH_take (i := 0) (v := ?_) rfl (by kernel_rfl) (by kernel_rfl) (by kernel_rfl) (fun _ _ _ h => h) (Or.inl ⟨by rfl, ?_⟩) s0 ?_
            rotate_left
            · intro w hSw; first | (obtain ⟨s1, s2, s3, s4, s5, s6, s7, s8⟩ := hSw; go_simp; rfl) | (obtain ⟨s1, s2, s3, s4, s5, s6, s7⟩ := hSw; go_simp; rfl) | (obtain ⟨s1, s2, s3⟩ := hSw; go_simp; rfl) | (obtain ⟨s1, s2⟩ := hSw; go_simp; rfl) | (have s1 := hSw; go_simp; rfl)
            go_simp
            refine wpAnyH_take (i := 1) (v := ?_) rfl (by kernel_rfl) (by kernel_rfl) (by kernel_rfl) (fun _ _ _ h => h) (Or.inl ⟨by rfl, ?_⟩) s0 ?_
            rotate_left
            · intro w hSw; first | (obtain ⟨s1, s2, s3, s4, s5, s6, s7, s8⟩ := hSw; go_simp; rfl) | (obtain ⟨s1, s2, s3, s4, s5, s6, s7⟩ := hSw; go_simp; rfl) | (obtain ⟨s1, s2, s3⟩ := hSw; go_simp; rfl) | (obtain ⟨s1, s2⟩ := hSw; go_simp; rfl) | (have s1 := hSw; go_simp; rfl)
            go_simp
            refine wpAnyH_take (i := 2) (v := ?_) rfl (by kernel_rfl) (by kernel_rfl) (by kernel_rfl) (fun _ _ _ h => h) (Or.inl ⟨by rfl, ?_⟩) s0 ?_
            rotate_left
            · intro w hSw; first | (obtain ⟨s1, s2, s3, s4, s5, s6, s7, s8⟩ := hSw; go_simp; rfl) | (obtain ⟨s1, s2, s3, s4, s5, s6, s7⟩ := hSw; go_simp; rfl) | (obtain ⟨s1, s2, s3⟩ := hSw; go_simp; rfl) | (obtain ⟨s1, s2⟩ := hSw; go_simp; rfl) | (have s1 := hSw; go_simp; rfl)
            go_simp
            refine wpAnyH_take (i := 3) (v := ?_) rfl (by kernel_rfl) (by kernel_rfl) (by kernel_rfl) (fun _ _ _ h => h) (Or.inl ⟨by rfl, ?_⟩) s0 ?_
            rotate_left
            · intro w hSw; first | (obtain ⟨s1, s2, s3, s4, s5, s6, s7, s8⟩ := hSw; go_simp; rfl) | (obtain ⟨s1, s2, s3, s4, s5, s6, s7⟩ := hSw; go_simp; rfl) | (obtain ⟨s1, s2, s3⟩ := hSw; go_simp; rfl) | (obtain ⟨s1, s2⟩ := hSw; go_simp; rfl) | (have s1 := hSw; go_simp; rfl)
            go_simp
            refine wpAnyH_take (i := 4) (v := ?_) rfl (by kernel_rfl) (by kernel_rfl) (by kernel_rfl) (fun _ _ _ h => h) (Or.inl ⟨by rfl, ?_⟩) s0 ?_
            rotate_left
            · intro w hSw; first | (obtain ⟨s1, s2, s3, s4, s5, s6, s7, s8⟩ := hSw; go_simp; rfl) | (obtain ⟨s1, s2, s3, s4, s5, s6, s7⟩ := hSw; go_simp; rfl) | (obtain ⟨s1, s2, s3⟩ := hSw; go_simp; rfl) | (obtain ⟨s1, s2⟩ := hSw; go_simp; rfl) | (have s1 := hSw; go_simp; rfl)
            go_simp
            refine wpAnyH_take (i := 5) (v := ?_) rfl (by kernel_rfl) (by kernel_rfl) (by kernel_rfl) (fun _ _ _ h => h) (Or.inl ⟨by rfl, ?_⟩) s0 ?_
            rotate_left
            · intro w hSw; first | (obtain ⟨s1, s2, s3, s4, s5, s6, s7, s8⟩ := hSw; go_simp; rfl) | (obtain ⟨s1, s2, s3, s4, s5, s6, s7⟩ := hSw; go_simp; rfl) | (obtain ⟨s1, s2, s3⟩ := hSw; go_simp; rfl) | (obtain ⟨s1, s2⟩ := hSw; go_simp; rfl) | (have s1 := hSw; go_simp; rfl)
            go_simp
            refine wpAnyH_take (i := 6) (v := ?_) rfl (by kernel_rfl) (by kernel_rfl) (by kernel_rfl) (fun _ _ _ h => h) (Or.inl ⟨by rfl, ?_⟩) s0 ?_
            rotate_left
            · intro w hSw; first | (obtain ⟨s1, s2, s3, s4, s5, s6, s7, s8⟩ := hSw; go_simp; rfl) | (obtain ⟨s1, s2, s3, s4, s5, s6, s7⟩ := hSw; go_simp; rfl) | (obtain ⟨s1, s2, s3⟩ := hSw; go_simp; rfl) | (obtain ⟨s1, s2⟩ := hSw; go_simp; rfl) | (have s1 := hSw; go_simp; rfl)
            go_simp
            refine wpAnyH_take (i := 7) (v := ?_) rfl (by kernel_rfl) (by kernel_rfl) (by kernel_rfl) (fun _ _ _ h => h) (Or.inl ⟨by rfl, ?_⟩) s0 ?_
            rotate_left
            · intro w hSw; first | (obtain ⟨s1, s2, s3, s4, s5, s6, s7, s8⟩ := hSw; go_simp; rfl) | (obtain ⟨s1, s2, s3, s4, s5, s6, s7⟩ := hSw; go_simp; rfl) | (obtain ⟨s1, s2, s3⟩ := hSw; go_simp; rfl) | (obtain ⟨s1, s2⟩ := hSw; go_simp; rfl) | (have s1 := hSw; go_simp; rfl)
            go_simp
            refine wpAnyH_take (i := 8) (v := ?_) rfl (by kernel_rfl) (by kernel_rfl) (by kernel_rfl) (fun _ _ _ h => h) (Or.inl ⟨by rfl, ?_⟩) s0 ?_
            rotate_left
            · intro w hSw; first | (obtain ⟨s1, s2, s3, s4, s5, s6, s7, s8⟩ := hSw; go_simp; rfl) | (obtain ⟨s1, s2, s3, s4, s5, s6, s7⟩ := hSw; go_simp; rfl) | (obtain ⟨s1, s2, s3⟩ := hSw; go_simp; rfl) | (obtain ⟨s1, s2⟩ := hSw; go_simp; rfl) | (have s1 := hSw; go_simp; rfl)
            go_simp
            refine wpAnyH_take (i := 9) (v := ?_) rfl (by kernel_rfl) (by kernel_rfl) (by kernel_rfl) (fun _ _ _ h => h) (Or.inl ⟨by rfl, ?_⟩) s0 ?_
            rotate_left
            · intro w hSw; first | (obtain ⟨s1, s2, s3, s4, s5, s6, s7, s8⟩ := hSw; go_simp; rfl) | (obtain ⟨s1, s2, s3, s4, s5, s6, s7⟩ := hSw; go_simp; rfl) | (obtain ⟨s1, s2, s3⟩ := hSw; go_simp; rfl) | (obtain ⟨s1, s2⟩ := hSw; go_simp; rfl) | (have s1 := hSw; go_simp; rfl)
            go_simp
            refine wpAnyH_take (i := 10) (v := ?_) rfl (by kernel_rfl) (by kernel_rfl) (by kernel_rfl) (fun _ _ _ h => h) (Or.inl ⟨by rfl, ?_⟩) s0 ?_
            rotate_left
            · intro w hSw; first | (obtain ⟨s1, s2, s3, s4, s5, s6, s7, s8⟩ := hSw; go_simp; rfl) | (obtain ⟨s1, s2, s3, s4, s5, s6, s7⟩ := hSw; go_simp; rfl) | (obtain ⟨s1, s2, s3⟩ := hSw; go_simp; rfl) | (obtain ⟨s1, s2⟩ := hSw; go_simp; rfl) | (have s1 := hSw; go_simp; rfl)
            go_simp
            refine wpAnyH_take (i := 11) (v := ?_) rfl (by kernel_rfl) (by kernel_rfl) (by kernel_rfl) (fun _ _ _ h => h) (Or.inl ⟨by rfl, ?_⟩) s0 ?_
            rotate_left
            · intro w hSw; first | (obtain ⟨s1, s2, s3, s4, s5, s6, s7, s8⟩ := hSw; go_simp; rfl) | (obtain ⟨s1, s2, s3, s4, s5, s6, s7⟩ := hSw; go_simp; rfl) | (obtain ⟨s1, s2, s3⟩ := hSw; go_simp; rfl) | (obtain ⟨s1, s2⟩ := hSw; go_simp; rfl) | (have s1 := hSw; go_simp; rfl)
            go_simp
            refine wpAnyH_take (i := 12) (v := ?_) rfl (by kernel_rfl) (by kernel_rfl) (by kernel_rfl) (fun _ _ _ h => h) (Or.inl ⟨by rfl, ?_⟩) s0 ?_
            rotate_left
            · intro w hSw; first | (obtain ⟨s1, s2, s3, s4, s5, s6, s7, s8⟩ := hSw; go_simp; rfl) | (obtain ⟨s1, s2, s3, s4, s5, s6, s7⟩ := hSw; go_simp; rfl) | (obtain ⟨s1, s2, s3⟩ := hSw; go_simp; rfl) | (obtain ⟨s1, s2⟩ := hSw; go_simp; rfl) | (have s1 := hSw; go_simp; rfl)
            go_simp
            refine heldOne (i := 13) (by kernel_rfl) rfl (by rfl) (fun K hK => ?_)
            refine wp_copy_rows _ (.tmp 75) (.tmp 81) 40 40 rfl 43 3 Tryd.underlying40 blkSize (by omega) _ _ _ _ _ _ rfl rfl g ((i + 1) * 3) cur 43 HK5.out ((l.drop i).flatMap bC) (by rw [HFL.out]; show _ = min _ _ * 3; omega) (fun _ => ⟨rfl, _, rfl, fun j u hj => by rw [addr_add2]; exact HSRC.out j u hj⟩) (by rw [HFL.out, HK2.out]; omega) (bC_one _) ?_
            intro w6 hw6 hf6
            have R6 := Lib.hid (HCUR.out w6 hw6)
            have F6 := Lib.hid hf6
            refine hK.out _ _ ((hf6.cell (lt_of_block HB5.out) (fun e => hga e.symm) _).trans s0) ?_
            clear hK K hw6 s0
            refine wpAnyH_done (by kernel_rfl) ?_ _
            have z3 : w6.cell? ⟨ab, 3, none⟩ = some (.slice (some ⟨g, 0, none⟩) (N + 1) cap) := (hf6.cell (lt_of_block HB5.out) (fun e => hga e.symm) _).trans (cell_of_block HB5.out 3)
            obtain ⟨r, hr⟩ : ∃ r, ((l ++ [(⟨0, 0, 0⟩ : Bk)]).take (i + 1) ++ l.drop i)[i]? = some r := ⟨_, List.getElem?_eq_getElem (by simp [HN.out] <;> omega)⟩
            obtain ⟨g', eg, hgl2, hrow⟩ := flat_at bC 3 bC_len R6.out.own hr (by omega)
            obtain rfl : g = g' := by simpa using eg
            have r0 : w6.cell? ⟨g, i * 3, none⟩ = some (.int .i64 r.pos) := hrow 0 _ rfl
            have r1 : w6.cell? ⟨g, i * 3 + 1, none⟩ = some (.int .i64 r.num) := hrow 1 _ rfl
            have r2 : w6.cell? ⟨g, i * 3 + 2, none⟩ = some (.int .i64 r.wid) := hrow 2 _ rfl
            have rf : ∀ o, w6.frozen? ⟨g, o, none⟩ = false := by obtain ⟨cur6, c1, _⟩ := R6.out.ex; exact free_of_block c1
            have HRR := Lib.hid hr
            clear hr hrow eg hf6
            go_wp2
            go_ret2
            have hN := HN.out
            subst hN
            exact got_fin HAP.out HM3.out F3.out (by have := F4.out; exact this) F5.out HB5.out F6.out R6.out HRR.out (fun x => up_set (by omega)) HGL.out hga HFI.out (by omega)

end Go.Proofs.YtlmjogfjhngcoaaDoor
