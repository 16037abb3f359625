/- No handle is given twice; each stands for its address and kind till it is gone: the statement's walk. -/
import Derived.Test.YtincfbgegoefgaaDoorObjO
import Derived.Test.YtincfbgegoefgaaDoorInts
import Derived.Test.YtincfbgegoefgaaDoorDoorP
import Derived.Deep.DeepCutAuto
import Derived.Deep.CutBlock
import Derived.Laws.OwnMore
namespace Go.Proofs.YtincfbgegoefgaaDoor
open Go.RowKit

theorem u64Info : (Tryd.prog.info? 32).map (fun i => (i.zero, i.size, i.bytes)) = some (some (.int .u64 0), 1, 8) := by kernel_rfl
theorem boolInfo : (Tryd.prog.info? 4).map (fun i => (i.zero, i.size, i.bytes)) = some (some (.bool false), 1, 1) := by kernel_rfl
def u64c (l : List Nat) : List Value := l.map fun (x : Nat) => Value.int .u64 (x : Int)
theorem u64c_snoc (l : List Nat) (x : Nat) : u64c l ++ [.int .u64 x] = u64c (l ++ [x]) := by simp [u64c]
theorem u64c_get {l : List Nat} {j x : Nat} (h : l[j]? = some x) : (u64c l)[j]? = some (.int .u64 x) := by simp [u64c, h]
def boolc (l : List Bool) : List Value := l.map fun x => Value.bool x
theorem boolc_snoc (l : List Bool) (x : Bool) : boolc l ++ [.bool x] = boolc (l ++ [x]) := by simp [boolc]
theorem boolc_get {l : List Bool} {j : Nat} {x : Bool} (h : l[j]? = some x) : (boolc l)[j]? = some (.bool x) := by simp [boolc, h]
theorem boolc_set (l : List Bool) (j : Nat) (x : Bool) : (boolc l).set j (.bool x) = boolc (l.set j x) := by simp [boolc]
theorem own_apart {w : World} {base base' n n' size size' : Nat} {e e' : TypeId} {v v' : Value} {xs ys : List Value} (h : w.ownsRow base e size v n xs) (h' : w.ownsRow base' e' size' v' n' ys) (he : e ≠ e') : ∀ k, v.ownBlock = some k → v'.ownBlock ≠ some k := by
  intro k h1 h2
  rcases h.2 with ⟨rfl, _⟩ | ⟨g, cap, cur, rfl, _, hg, _⟩
  · cases h1
  · rcases h'.2 with ⟨rfl, _⟩ | ⟨g', cap', cur', rfl, _, hg', _⟩
    · cases h2
    · obtain rfl : g = k := by simpa [Value.ownBlock] using h1
      obtain rfl : g' = g := by simpa [Value.ownBlock] using h2
      rw [hg, Option.some.injEq, Obj.cells.injEq] at hg'
      exact he hg'.2.1

/-- Where the walk stands: the objects, the handles given, which of them live. -/
structure StF (w0 w : World) (b rb B n : Nat) (vg vl : Value) (l : List Row) (G : List Nat) (V : List Bool) (i : Nat) : Prop where
  p : ObjRep w b rb l
  len : l.length = n
  low : b < B ∧ rb < B ∧ B ≤ w.heap.size ∧ w0.heap.size ≤ rb ∧ w0.heap.size ≤ B
  g : w.ownsRow B 32 1 vg G.length (u64c G)
  v : w.ownsRow B 4 1 vl V.length (boolc V)
  f : Fresh l G V i
  n' : New w0 w
theorem mk_len (l : List Row) (k : Int) (a : Nat) : (mkL l k a).length = l.length := by
  unfold mkL
  split
  · rfl
  · split
    · simp
    · rfl
theorem gn_len (l : List Row) (h : Nat) : (gnL l h).length = l.length := by
  unfold gnL
  split
  · simp
  · rfl
section
variable {w0 w w' : World} {b rb B n i : Nat} {vg vl : Value} {l l' : List Row} {G : List Nat} {V : List Bool}
theorem StF.new (h : StF w0 w b rb B n vg vl l G V i) (f : New w w') : StF w0 w' b rb B n vg vl l G V i :=
  ⟨h.p.keep f id id, h.len, by have := h.low; have := f.size; omega, own_kept h.g f (fun _ _ => id), own_kept h.v f (fun _ _ => id), h.f, h.n'.trans f⟩
/-- The rows turn. -/
theorem StF.rows (h : StF w0 w b rb B n vg vl l G V i) (hr : ObjRep w' b rb l') (hl : l'.length = l.length) (f : Fr (· = rb) w w') :
    ObjRep w' b rb l' ∧ l'.length = n ∧ (b < B ∧ rb < B ∧ B ≤ w'.heap.size ∧ w0.heap.size ≤ rb ∧ w0.heap.size ≤ B) ∧ w'.ownsRow B 32 1 vg G.length (u64c G) ∧ w'.ownsRow B 4 1 vl V.length (boolc V) ∧ New w0 w' := by
  have hlow := h.low
  exact ⟨hr, by rw [hl]; exact h.len, by have := f.size; omega, own_kept h.g f (fun k hk e => by have := (h.g.lt k hk).1; omega), own_kept h.v f (fun k hk e => by have := (h.v.lt k hk).1; omega), h.n'.then f (fun k hk e => by omega)⟩
end

set_option maxRecDepth 100000 in
set_option maxHeartbeats 8000000 in
theorem fresh_walk (m : Int) (xs : List Int) (ao : Option Addr) (ca : Nat) (w : World) (hg : Laid w) (hb : -9223372036854775808 ≤ m ∧ m ≤ 9223372036854775807) (hfit : ∀ x ∈ xs, -9223372036854775808 ≤ x ∧ x ≤ 9223372036854775807) (hc : IntsI w ao xs) (hml : xs.length ≤ 9223372036854775807) :
    Calls Tryd.prog 5 #[.int .i64 m, .slice ao xs.length ca] w fun e w' => e = .returned (.bool true) ∧ New w w' := by
  obtain ⟨K, hK⟩ : ∃ K, xs.length = K := ⟨_, rfl⟩
  rw [hK] at hml ⊢
  obtain ⟨q, hq, hq5⟩ := within_nat m 6 (by omega)
  have hwd := within_any m 6 w (by omega) (by omega) (by omega) (by omega)
  rw [hq] at hwd
  have HG := Lib.hid hg
  have HC := Lib.hid hc
  have HFIT := Lib.hid hfit
  have HK := Lib.hid hK
  have HWD := Lib.hid hwd
  obtain ⟨i0, hi, hz0, hz1, hz2⟩ := info_parts u64Info
  obtain ⟨i1, hj, hy0, hy1, hy2⟩ := info_parts boolInfo
  clear hg hc hfit hK hwd hq
  go_enter Tryd.func5, Tryd.ntmps5
  go_wp2_with fail
  refine HWD.out.mono ?_
  rintro e w1 ⟨rfl, rfl⟩
  clear HWD
  go_wp2_with fail
  try rw [show (1 : Int) + (q : Int) = ((q + 1 : Nat) : Int) by omega]
  obtain ⟨n, hn⟩ : ∃ n, q + 1 = n := ⟨_, rfl⟩
  rw [hn]
  have hn1 : 1 ≤ n := by omega
  have hn2 : n ≤ 64 := by omega
  clear hn hq5
  refine (new_any n _ hn1 hn2).mono ?_
  rintro e w1 ⟨b, rb, rfl, hb1, hrb1, hr, hnw1⟩
  obtain ⟨B, hB⟩ : ∃ B, w1.heap.size = B := ⟨_, rfl⟩
  have HP := Lib.hid (show StF w w1 b rb B n (.slice none 0 0) (.slice none 0 0) (List.replicate n ⟨0, 0, 0, 0⟩) [] [] 0 from ⟨hr, by simp, by have := hr.hd.lt; have := hr.rows.lt; have := hnw1.size; omega, World.ownsRow_nil _ _ _ _, World.ownsRow_nil _ _ _ _, Fresh.start n hn2, hnw1⟩)
  clear hr hnw1 hb1 hrb1 hB
  go_wp2_with fail
  go_loopw [7, 8, 9] (fun vg vl i wr => ∃ (k : Nat) (l : List Row) (G : List Nat) (V : List Bool), k ≤ K ∧ k ≤ 60 ∧ i = .int .i64 k ∧ StF w wr b rb B n vg vl l G V k) (fun _ _ i _ => K - (intOf i).toNat)
  case atStart => exact ⟨0, _, [], [], by omega, by omega, rfl, HP.out⟩
  case round =>
    clear HP
    obtain ⟨k, l, G, V, hk, hk3, rfl, hpl⟩ := hrel
    have HP := Lib.hid hpl
    clear hpl
    by_cases hend : k < K ∧ k < 60
    · obtain ⟨hlt, hlt3⟩ := hend
      obtain ⟨ag, cg, rfl, hcg⟩ := owned_form HP.out.g
      obtain ⟨al, cl, rfl, hcl⟩ := owned_form HP.out.v
      have hfm := Fresh.made (a := 1000 + k) (k := 1 + (k : Int) % 6) HP.out.f (by omega) (by omega) (by omega) (by rw [HP.out.len]; omega)
      have hpm := pmake_any (k := 1 + (k : Int) % 6) (a := 1000 + k) HP.out.p (fun r hr => by have := HP.out.f.tk r hr; omega)
      have hlen := HP.out.f.len
      obtain ⟨N, hN⟩ : ∃ N, G.length = N := ⟨_, rfl⟩
      have hM : V.length = N := by rw [hlen.1, hN]
      have HN := Lib.hid hN
      have HM := Lib.hid hM
      have HFM := Lib.hid hfm
      have HPM := Lib.hid hpm
      rw [hN] at hlen
      have hln := hlen.2
      clear hlen
      have hcapg := doc_cap HP.out.g
      have hcapl := doc_cap HP.out.v
      rw [hN] at hcapg
      rw [hM] at hcapl
      clear hfm hpm hcg hcl
      go_wp2_with fail
      rw [hN, hM]
      clear hN hM
      rw [show (1000 : Int) + (k : Int) = ((1000 + k : Nat) : Int) by omega]
      obtain ⟨kd, hkd⟩ : ∃ kd : Int, 1 + (k : Int) % 6 = kd := ⟨_, rfl⟩
      rw [hkd] at HFM HPM ⊢
      have hk1 : 1 ≤ kd := by omega
      have hk2 : kd ≤ 6 := by omega
      clear hkd
      refine HPM.out.mono ?_
      rintro e w1 ⟨x, rfl, hx, hr1, f1⟩
      obtain ⟨r1, r2, r3, r4, r5, r6⟩ := HP.out.rows hr1 (mk_len _ _ _) f1
      have HR1 := Lib.hid r1
      have HL1 := Lib.hid r2
      have HG1 := Lib.hid r4
      have HV1 := Lib.hid r5
      have HN1 := Lib.hid r6
      have hxx : (mkE l kd = none ∧ x = .nilIface) ∨ (mkE l kd = some (0, 3) ∧ ∃ eb, x = .iface 72 (.pointer (some ⟨eb, 0, none⟩))) := by
        rcases HFM.out with ⟨e1, _⟩ | ⟨e1, _⟩
        · rw [e1] at hx; exact .inr ⟨e1, hx.at⟩
        · rw [e1] at hx; exact .inl ⟨e1, hx⟩
      obtain ⟨h, hhe⟩ : ∃ h, mkH l kd = h := ⟨_, rfl⟩
      rw [hhe] at HFM ⊢
      have HXX := Lib.hid hxx
      have HF0 := Lib.hid HP.out.f
      clear hx hr1 f1 r1 r2 r4 r5 r6 hxx HPM HP hhe
      go_upto_region 11 with fail
      go_cut [55] (fun s wx => ∃ y : Bool, s = .bool y ∧ (y = true → mkE l kd = none) ∧ (y = false → mkE l kd = some (0, 3)) ∧ w1 = wx)
      case first => as_aux_lemma =>
        rcases HXX.out with ⟨e1, rfl⟩ | ⟨e1, eb, rfl⟩
        · go_wp2_with fail
          go_meet
          case rel => exact ⟨true, rfl, fun _ => e1, fun h => Bool.noConfusion h, rfl⟩
        · go_wp2_with fail
          go_meet
          case rel => exact ⟨false, rfl, fun h => Bool.noConfusion h, fun _ => e1, rfl⟩
      obtain ⟨y, rfl, hy1, hy2, rfl⟩ := hcut
      have HY1 := Lib.hid hy1
      have HY2 := Lib.hid hy2
      clear hy1 hy2 HXX
      go_upto_if 55 with fail
      go_cut [7, 8] (fun vg vl wx => ∃ (l : List Row) (G : List Nat) (V : List Bool), StF w wx b rb B n vg vl l G V (k + 1) ∧ G ≠ [])
      case first => as_aux_lemma =>
        cases y with
        | false =>
          have e1 := HY2.out rfl
          rcases HFM.out with ⟨_, e2, e3⟩ | ⟨e2, _⟩
          · have hst : StF w w1 b rb B n (.slice ag N cg) (.slice al N cl) l G V (k + 1) := ⟨by rw [← e2]; exact HR1.out, by rw [← e2]; exact HL1.out, r3, by rw [← HN.out]; have := HG1.out; rwa [HN.out] at this ⊢, by have := HV1.out; rwa [HM.out] at this ⊢, HF0.out.up (by omega), HN1.out⟩
            have HST := Lib.hid hst
            clear hst e1 e2
            go_wp2_with fail
            go_meet
            case rel => exact ⟨l, G, V, HST.out, e3⟩
          · rw [e1] at e2; cases e2
        | true =>
          have e1 := HY1.out rfl
          rcases HFM.out with ⟨e2, _⟩ | ⟨_, hnG, hh0, hh1, hfa, hfe, hki, hfr⟩
          · rw [e1] at e2; cases e2
          · generalize mkL l kd (1000 + k) = l2 at HR1 HL1 hfa hfe hki hfr
            have hpf := pfind_any (k := kd) HR1.out hh1
            have hpk := fun w2 (h2 : ObjRep w2 b rb l2) => pkind_any h2 hh1
            rw [hfa, hfe] at hpf
            rw [hki] at hpk
            obtain ⟨a1, c1, e3, hcell⟩ := owned_form HG1.out
            obtain ⟨rfl, rfl⟩ : ag = a1 ∧ cg = c1 := by simpa using e3
            have HPF := Lib.hid hpf
            have HPK := Lib.hid hpk
            have HCELL := Lib.hid hcell
            have HNG := Lib.hid hnG
            have HFR := Lib.hid hfr
            have HG1' := Lib.hid (show w1.ownsRow B 32 1 (.slice ag N cg) N (u64c G) by have := HG1.out; rwa [HN.out] at this)
            have HV1' := Lib.hid (show w1.ownsRow B 4 1 (.slice al N cl) N (boolc V) by have := HV1.out; rwa [HM.out] at this)
            have t1 : ((h : Int) == 0) = false := by rw [beq_eq_false_iff_ne]; omega
            have t2 : (((1000 + k : Nat) : Int) != 1000 + (k : Int)) = false := by rw [bne_eq_false_iff_eq]; omega
            have t3 : (kd != kd) = false := by simp
            clear e1 hnG hfa hfe hki hfr hpf hpk hcell e3 HG1 HV1
            go_wp2_with fail
            go_loop [13] (fun i => ∃ j : Nat, j ≤ N ∧ i = .int .i64 j) (fun i => N - (intOf i).toNat)
            case atStart => exact ⟨0, by omega, rfl⟩
            case round =>
              obtain ⟨j, hjn, rfl⟩ := hrel
              by_cases hlt2 : j < N
              · obtain ⟨u, hu⟩ : ∃ u, G[j]? = some u := ⟨G[j]'(by rw [HN.out]; exact hlt2), by simp⟩
                obtain ⟨g, rfl, _, hg1, x0⟩ := HCELL.out j _ (u64c_get hu)
                have t4 : ((u : Int) == (h : Int)) = false := by
                  rw [beq_eq_false_iff_ne]
                  intro e
                  exact HNG.out (by rw [show h = u by omega]; exact List.mem_of_getElem? hu)
                have q1 : (0 : Int) ≤ (j : Int) := by omega
                have q2 : (j : Int) < (N : Int) := by omega
                clear hu
                go_wp2_with fail
                go_round
                case rel => exact ⟨j + 1, by omega, by go_num⟩
                case measure => simp [intOf]; omega
              · go_wp2_with fail
                refine HPF.out.mono ?_
                rintro e w2 ⟨x, rfl, hx, hn2⟩
                obtain rfl : x = .nilIface := hx
                have HR2 := Lib.hid (HR1.out.keep hn2 id id)
                have HG2 := Lib.hid (own_kept HG1'.out hn2 (fun _ _ => id))
                have HV2 := Lib.hid (own_kept HV1'.out hn2 (fun _ _ => id))
                have HN2 := Lib.hid (HN1.out.trans hn2)
                have hs2 := hn2.size
                clear hn2
                go_wp2_with fail
                refine (HPK.out w2 HR2.out).mono ?_
                rintro e w3 ⟨rfl, rfl⟩
                have HAG := Lib.hid (show ∀ kk, (Value.slice ag N cg).ownBlock = some kk → B ≤ kk from fun kk e => (HG2.out.lt kk e).1)
                have HAV := Lib.hid (show ∀ kk, (Value.slice al N cl).ownBlock = some kk → B ≤ kk from fun kk e => (HV2.out.lt kk e).1)
                go_wp2_with (first
                  | (at_builtin; go_loud (refine wpList_append_own _ rfl (.tmp 95) (.tmp 97) 60 rfl B 32 i0 _ 1 8 Tryd.underlying60 hi hz0 hz1 hz2 rfl (by decide) _ _ _ rfl (HG2.out.alloc _) ⟨w2.heap.size, 0, none⟩ 1 1 [.int .u64 h] rfl rfl (Arr.add (Arr.new _ _ _)) (by simp [Value.oneCell']) (by unfold maxLen; omega) (by omega) (by simp; omega) ?_; intro vg' w3 hown3 hgrow hnil; clear hnil; have f3 : Fr (fun kk => (Value.slice ag N cg).ownBlock = some kk) w2 w3 := (((Fr.refl _ w2).alloc _).grown hgrow (fun kk hkk _ => hkk)); have HO3 := Lib.hid hown3; have HF3 := Lib.hid f3; have hs3 := f3.size; have HV3 := Lib.hid (own_kept HV2.out f3 (fun kk hk e => own_apart HG2.out HV2.out (by decide) kk e hk)); clear hown3 hgrow f3))
                  | (at_builtin; go_loud (refine wpList_append_own _ rfl (.tmp 99) (.tmp 100) 61 rfl B 4 i1 _ 1 1 Tryd.underlying61 hj hy0 hy1 hy2 rfl (by decide) _ _ _ rfl (HV3.out.alloc _) ⟨w3.heap.size, 0, none⟩ 1 1 [.bool true] rfl rfl (Arr.add (Arr.new _ _ _)) (by simp [Value.oneCell']) (by unfold maxLen; omega) (by omega) (by simp; omega) ?_; intro vl' w4 hown4 hgrow hnil; clear hnil; have f4 : Fr (fun kk => (Value.slice al N cl).ownBlock = some kk) w3 w4 := (((Fr.refl _ w3).alloc _).grown hgrow (fun kk hkk _ => hkk)); have HO4 := Lib.hid hown4; have HF4 := Lib.hid f4; have hs4 := f4.size; have HG4 := Lib.hid (own_kept HO3.out f4 (fun kk hk e => own_apart HO3.out HV3.out (by decide) kk hk e)); clear hown4 hgrow f4)))
                go_meet
                case rel => exact ⟨l2, G ++ [h], V ++ [true], ⟨(HR2.out.keep HF3.out (fun e => by have := HAG.out _ e; omega) (fun e => by have := HAG.out _ e; omega)).keep HF4.out (fun e => by have := HAV.out _ e; omega) (fun e => by have := HAV.out _ e; omega), HL1.out, by omega,
                  by rw [← u64c_snoc, List.length_append, HN.out]; exact HG4.out, by rw [← boolc_snoc, List.length_append, HM.out]; exact HO4.out, HFR.out,
                  (HN2.out.then HF3.out (fun kk hk e => by have := HAG.out _ e; omega)).then HF4.out (fun kk hk e => by have := HAV.out _ e; omega)⟩, by simp⟩
      clear HFM HR1 HL1 HG1 HV1 HN1 HF0 HY1 HY2 r3 hcapg hcapl HN HM hln hk1 hk2
      obtain ⟨l, G, V, hst, hne⟩ := hcut
      have hlen := hst.f.len
      obtain ⟨N, hN⟩ : ∃ N, G.length = N := ⟨_, rfl⟩
      have hM : V.length = N := by rw [hlen.1, hN]
      have hN1 : 1 ≤ N := by
        cases G with
        | nil => exact absurd rfl hne
        | cons x r => rw [← hN]; simp
      rw [hN] at hlen
      have hNk : N ≤ k + 1 := hlen.2.1
      obtain ⟨z, hz⟩ : ∃ z, xs[k]? = some z := ⟨xs[k]'(by rw [HK.out]; exact hlt), by simp⟩
      have hzb := HFIT.out z (List.mem_of_getElem? hz)
      obtain ⟨g0, off, rfl, hg0, x0⟩ := (HC.out.keep hst.n') k z hz
      obtain ⟨p, hp, hp5⟩ := within_nat z N (by omega)
      have hwd := within_any z N wc (by omega) (by omega) hzb.1 hzb.2
      rw [hp] at hwd
      obtain ⟨u, hu⟩ : ∃ u, G[p]? = some u := ⟨G[p]'(by rw [hN]; omega), by simp⟩
      obtain ⟨y, hy⟩ : ∃ y, V[p]? = some y := ⟨V[p]'(by rw [hM]; omega), by simp⟩
      obtain ⟨hge, hfe, hki, hfr⟩ := Fresh.gn hst.f hu hy
      have hu1 := (hst.f.ne (List.mem_of_getElem? hu)).2
      obtain ⟨ag, cg, rfl, hcg⟩ := owned_form hst.g
      obtain ⟨al, cl, rfl, hcl⟩ := owned_form hst.v
      have hcapg := doc_cap hst.g
      have hcapl := doc_cap hst.v
      obtain ⟨gb, rfl, hgB, hgl, y0⟩ := hcg p _ (u64c_get hu)
      obtain ⟨vb, rfl, hvB, hvl, y1⟩ := hcl p _ (boolc_get hy)
      have hgv : gb ≠ vb := fun e => own_apart hst.g hst.v (by decide) gb rfl (by rw [e]; rfl)
      have hlow := hst.low
      rw [hN] at hcapg
      rw [hM] at hcapl
      have HWD := Lib.hid hwd
      have HST := Lib.hid hst
      have HGE := Lib.hid hge
      have HFE := Lib.hid hfe
      have HKI := Lib.hid hki
      have HFR := Lib.hid hfr
      have HN := Lib.hid hN
      have HM := Lib.hid hM
      have q1 : (0 : Int) ≤ (p : Int) := by omega
      have q2 : (p : Int) < (N : Int) := by omega
      clear hst hlen hM hne hz hwd hp hu hy hge hfe hki hfr hcg hcl
      go_wp2_with fail
      rw [hN]
      refine HWD.out.mono ?_
      rintro e w' ⟨rfl, rfl⟩
      rw [HM.out]
      clear hN HWD x0
      cases y
      · have HX := Lib.hid (show ∀ (x : Value) (w1 : World), Says w1 objL x (gnE l u) → ∃ eb, x = Value.iface 72 (.pointer (some ⟨eb, 0, none⟩)) from fun x w1 (hx : Says w1 objL x (gnE l u)) => by rw [HGE.out] at hx; exact Says.at (k := 7) (n := 0) hx)
        go_wp2_with fail
        have s0 : wc.drew.cell? ⟨gb, p, none⟩ = some (.int .u64 u) ∧ wc.drew.cell? ⟨vb, p, none⟩ = some (.bool false) := ⟨y0, y1⟩
        refine heldStart (fun W1 => W1.cell? ⟨gb, p, none⟩ = some (.int .u64 u) ∧ W1.cell? ⟨vb, p, none⟩ = some (.bool false)) (by kernel_rfl) ?_
        have hd0 : New wc wc.drew := (Fr.refl _ _).drew
        have HS0 := Lib.hid (HST.out.new hd0)
        have hgl0 : gb < wc.drew.heap.size := hgl
        have hvl0 : vb < wc.drew.heap.size := hvl
        clear hd0 y0 y1 hgl hvl
        generalize wc.drew = V0 at s0 HS0 hgl0 hvl0 ⊢
        have HS := Lib.hid (show ∀ w3, Fr (· = rb) V0 w3 → w3.cell? ⟨gb, p, none⟩ = some (.int .u64 u) ∧ w3.cell? ⟨vb, p, none⟩ = some (.bool false) from fun w3 f => ⟨(f.cell hgl0 (by omega) _).trans s0.1, (f.cell hvl0 (by omega) _).trans s0.2⟩)
        refine wpAnyH_take (i := 0) (v := ?_) rfl (by kernel_rfl) (by kernel_rfl) (by kernel_rfl) (fun _ _ _ h => h) (Or.inl ⟨by rfl, ?_⟩) s0 ?_
        rotate_left
        · intro w hSw; first | (obtain ⟨s1, s2, s3, s4, s5, s6, s7⟩ := hSw; go_simp; rfl) | (obtain ⟨s1, s2, s3⟩ := hSw; go_simp; rfl) | (obtain ⟨s1, s2⟩ := hSw; go_simp; rfl) | (have s1 := hSw; go_simp; rfl)
        go_simp
        refine wpAnyH_take (i := 1) (v := ?_) rfl (by kernel_rfl) (by kernel_rfl) (by kernel_rfl) (fun _ _ _ h => h) (Or.inl ⟨by rfl, ?_⟩) s0 ?_
        rotate_left
        · intro w hSw; first | (obtain ⟨s1, s2, s3, s4, s5, s6, s7⟩ := hSw; go_simp; rfl) | (obtain ⟨s1, s2, s3⟩ := hSw; go_simp; rfl) | (obtain ⟨s1, s2⟩ := hSw; go_simp; rfl) | (have s1 := hSw; go_simp; rfl)
        go_simp
        refine wpAnyH_take (i := 2) (v := ?_) rfl (by kernel_rfl) (by kernel_rfl) (by kernel_rfl) (fun _ _ _ h => h) (Or.inl ⟨by rfl, ?_⟩) s0 ?_
        rotate_left
        · intro w hSw; first | (obtain ⟨s1, s2, s3, s4, s5, s6, s7⟩ := hSw; go_simp; rfl) | (obtain ⟨s1, s2, s3⟩ := hSw; go_simp; rfl) | (obtain ⟨s1, s2⟩ := hSw; go_simp; rfl) | (have s1 := hSw; go_simp; rfl)
        go_simp
        refine wpAnyH_take (i := 3) (v := ?_) rfl (by kernel_rfl) (by kernel_rfl) (by kernel_rfl) (fun _ _ _ h => h) (Or.inl ⟨by rfl, ?_⟩) s0 ?_
        rotate_left
        · intro w hSw; first | (obtain ⟨s1, s2, s3, s4, s5, s6, s7⟩ := hSw; go_simp; rfl) | (obtain ⟨s1, s2, s3⟩ := hSw; go_simp; rfl) | (obtain ⟨s1, s2⟩ := hSw; go_simp; rfl) | (have s1 := hSw; go_simp; rfl)
        go_simp
        refine wpAnyH_take (i := 4) (v := ?_) rfl (by kernel_rfl) (by kernel_rfl) (by kernel_rfl) (fun _ _ _ h => h) (Or.inl ⟨by rfl, ?_⟩) s0 ?_
        rotate_left
        · intro w hSw; first | (obtain ⟨s1, s2, s3, s4, s5, s6, s7⟩ := hSw; go_simp; rfl) | (obtain ⟨s1, s2, s3⟩ := hSw; go_simp; rfl) | (obtain ⟨s1, s2⟩ := hSw; go_simp; rfl) | (have s1 := hSw; go_simp; rfl)
        go_simp
        refine wpAnyH_take (i := 7) (v := ?_) rfl (by kernel_rfl) (by kernel_rfl) (by kernel_rfl) (fun _ _ _ h => h) (Or.inl ⟨by rfl, ?_⟩) s0 ?_
        rotate_left
        · intro w hSw; first | (obtain ⟨s1, s2, s3, s4, s5, s6, s7⟩ := hSw; go_simp; rfl) | (obtain ⟨s1, s2, s3⟩ := hSw; go_simp; rfl) | (obtain ⟨s1, s2⟩ := hSw; go_simp; rfl) | (have s1 := hSw; go_simp; rfl)
        go_simp
        refine wpAnyH_take (i := 8) (v := ?_) rfl (by kernel_rfl) (by kernel_rfl) (by kernel_rfl) (fun _ _ _ h => h) (Or.inl ⟨by rfl, ?_⟩) s0 ?_
        rotate_left
        · intro w hSw; first | (obtain ⟨s1, s2, s3, s4, s5, s6, s7⟩ := hSw; go_simp; rfl) | (obtain ⟨s1, s2, s3⟩ := hSw; go_simp; rfl) | (obtain ⟨s1, s2⟩ := hSw; go_simp; rfl) | (have s1 := hSw; go_simp; rfl)
        go_simp
        refine wpAnyH_take (i := 9) (v := ?_) rfl (by kernel_rfl) (by kernel_rfl) (by kernel_rfl) (fun _ _ _ h => h) (Or.inl ⟨by rfl, ?_⟩) s0 ?_
        rotate_left
        · intro w hSw; first | (obtain ⟨s1, s2, s3, s4, s5, s6, s7⟩ := hSw; go_simp; rfl) | (obtain ⟨s1, s2, s3⟩ := hSw; go_simp; rfl) | (obtain ⟨s1, s2⟩ := hSw; go_simp; rfl) | (have s1 := hSw; go_simp; rfl)
        go_simp
        refine wpAnyH_take (i := 10) (v := ?_) rfl (by kernel_rfl) (by kernel_rfl) (by kernel_rfl) (fun _ _ _ h => h) (Or.inl ⟨by rfl, ?_⟩) s0 ?_
        rotate_left
        · intro w hSw; first | (obtain ⟨s1, s2, s3, s4, s5, s6, s7⟩ := hSw; go_simp; rfl) | (obtain ⟨s1, s2, s3⟩ := hSw; go_simp; rfl) | (obtain ⟨s1, s2⟩ := hSw; go_simp; rfl) | (have s1 := hSw; go_simp; rfl)
        go_simp
        refine heldOne (i := 5) (by kernel_rfl) rfl (by rfl) (fun K hK => ?_)
        go_simp
        refine (pgone_any HS0.out.p hu1).mono ?_
        rintro e w3 ⟨x, rfl, hx, hr3, f3⟩
        have s1 := HS.out w3 f3
        obtain ⟨r1, r2, r3, r4, r5, r6⟩ := HS0.out.rows hr3 (gn_len _ _) f3
        obtain ⟨eb, rfl⟩ := HX.out x w3 hx
        have HR3 := Lib.hid r1
        have HL3 := Lib.hid r2
        have HG3 := Lib.hid r4
        have HV3 := Lib.hid r5
        have HN3 := Lib.hid r6
        refine hK.out _ _ s1 ?_
        clear hK K hx hr3 f3 r1 r2 r4 r5 r6 s0
        refine wpAnyH_take (i := 6) (v := ?_) rfl (by kernel_rfl) (by kernel_rfl) (by kernel_rfl) (fun _ _ _ h => h) (Or.inl ⟨by rfl, ?_⟩) s1 ?_
        rotate_left
        · intro w hSw; first | (obtain ⟨s1, s2, s3, s4, s5, s6, s7⟩ := hSw; go_simp; rfl) | (obtain ⟨s1, s2, s3⟩ := hSw; go_simp; rfl) | (obtain ⟨s1, s2⟩ := hSw; go_simp; rfl) | (have s1 := hSw; go_simp; rfl)
        go_simp
        refine wpAnyH_take (i := 11) (v := ?_) rfl (by kernel_rfl) (by kernel_rfl) (by kernel_rfl) (fun _ _ _ h => h) (Or.inl ⟨by rfl, ?_⟩) s1 ?_
        rotate_left
        · intro w hSw; first | (obtain ⟨s1, s2, s3, s4, s5, s6, s7⟩ := hSw; go_simp; rfl) | (obtain ⟨s1, s2, s3⟩ := hSw; go_simp; rfl) | (obtain ⟨s1, s2⟩ := hSw; go_simp; rfl) | (have s1 := hSw; go_simp; rfl)
        go_simp
        refine wpAnyH_done (by kernel_rfl) ?_ _
        obtain ⟨y0, y1⟩ := s1
        have fv := HV3.out.frozenAt p
        have hgl3 := lt_of_cell y0
        have hvl3 := lt_of_cell y1
        go_wp2_with fail
        obtain ⟨W5, hW5⟩ : ∃ W5, w3.setCell ⟨vb, p, none⟩ (.bool false) = W5 := ⟨_, rfl⟩
        have f5 : Fr (· = vb) w3 W5 := by rw [← hW5]; exact (Fr.refl (· = vb) w3).setCell (fun _ => rfl) _
        have hv5 := (HV3.out.stored p (.bool false)).1
        rw [hW5, boolc_set] at hv5
        rw [hW5]
        have e0 : W5.cell? ⟨gb, p, none⟩ = some (.int .u64 u) := (f5.cell hgl3 hgv _).trans y0
        have hs5 := f5.size
        have hst : StF w W5 b rb B n (.slice (some ⟨gb, 0, none⟩) G.length cg) (.slice (some ⟨vb, 0, none⟩) V.length cl) (gnL l u) G (V.set p false) (k + 1) := ⟨HR3.out.keep f5 (fun e => by omega) (fun e => by omega), HL3.out, by omega, own_kept HG3.out f5 (fun kk hk e => by cases hk; exact hgv e), by rw [List.length_set]; exact hv5, HFR.out, HN3.out.then f5 (fun kk hk e => by omega)⟩
        rw [HN.out, HM.out] at hst
        have HST5 := Lib.hid hst
        have hgl5 : gb < W5.heap.size := by omega
        clear hW5 f5 hv5 hst HR3 HL3 HG3 HV3 HN3 y0 y1 fv HS0 HS HST HX HGE
        have hpf := pfind_any (k := 1) HST5.out.p hu1
        rw [HFE.out] at hpf
        have HPF := Lib.hid hpf
        clear hpf
        refine HPF.out.mono ?_
        rintro e w6 ⟨x6, rfl, hx6, hn6⟩
        have e1 := (hn6.cell hgl5 id _).trans e0
        have hgl6 := Nat.lt_of_lt_of_le hgl5 hn6.size
        have HST6 := Lib.hid (HST5.out.new hn6)
        have HX6 := Lib.hid hx6
        clear hx6 hn6 e0 HST5
        go_wp2_with fail
        refine (no_says objL 0 7 _).mono ?_
        rintro e w7 ⟨f7, rfl, hf7, hn7⟩
        have e2 := (hn7.cell hgl6 id _).trans e1
        have hgl7 := Nat.lt_of_lt_of_le hgl6 hn7.size
        have HST7 := Lib.hid (HST6.out.new hn7)
        have HSM := Lib.hid (same_says x6 f7 objL _ w7 (HG.out.keep HST7.out.n' id) (HX6.out.new hn7) hf7)
        clear hf7 hn7 e1 HST6 HX6
        go_wp2_with fail
        refine HSM.out.mono ?_
        rintro e w8 ⟨rfl, hn8⟩
        have e3 := (hn8.cell hgl7 id _).trans e2
        have hgl8 := Nat.lt_of_lt_of_le hgl7 hn8.size
        have HST8 := Lib.hid (HST7.out.new hn8)
        have hpk := pkind_any HST8.out.p hu1
        rw [HKI.out] at hpk
        have HPK := Lib.hid hpk
        clear hn8 e2 HST7 HSM hpk
        go_wp2_with fail
        refine HPK.out.mono ?_
        rintro e w9 ⟨rfl, rfl⟩
        clear HPK e3
        go_wp2_with fail
        go_roundw
        case rel => exact ⟨k + 1, _, _, _, by omega, by omega, by go_num, HST8.out⟩
        case measure => simp [intOf]; omega
      · have HX := Lib.hid (show ∀ (x : Value) (w1 : World), Says w1 objL x (gnE l u) → x = Value.nilIface from fun x w1 (hx : Says w1 objL x (gnE l u)) => by rw [HGE.out] at hx; exact hx)
        go_wp2_with fail
        have s0 : wc.drew.cell? ⟨gb, p, none⟩ = some (.int .u64 u) ∧ wc.drew.cell? ⟨vb, p, none⟩ = some (.bool true) := ⟨y0, y1⟩
        refine heldStart (fun W1 => W1.cell? ⟨gb, p, none⟩ = some (.int .u64 u) ∧ W1.cell? ⟨vb, p, none⟩ = some (.bool true)) (by kernel_rfl) ?_
        have hd0 : New wc wc.drew := (Fr.refl _ _).drew
        have HS0 := Lib.hid (HST.out.new hd0)
        have hgl0 : gb < wc.drew.heap.size := hgl
        have hvl0 : vb < wc.drew.heap.size := hvl
        clear hd0 y0 y1 hgl hvl
        generalize wc.drew = V0 at s0 HS0 hgl0 hvl0 ⊢
        have HS := Lib.hid (show ∀ w3, Fr (· = rb) V0 w3 → w3.cell? ⟨gb, p, none⟩ = some (.int .u64 u) ∧ w3.cell? ⟨vb, p, none⟩ = some (.bool true) from fun w3 f => ⟨(f.cell hgl0 (by omega) _).trans s0.1, (f.cell hvl0 (by omega) _).trans s0.2⟩)
        refine wpAnyH_take (i := 0) (v := ?_) rfl (by kernel_rfl) (by kernel_rfl) (by kernel_rfl) (fun _ _ _ h => h) (Or.inl ⟨by rfl, ?_⟩) s0 ?_
        rotate_left
        · intro w hSw; first | (obtain ⟨s1, s2, s3, s4, s5, s6, s7⟩ := hSw; go_simp; rfl) | (obtain ⟨s1, s2, s3⟩ := hSw; go_simp; rfl) | (obtain ⟨s1, s2⟩ := hSw; go_simp; rfl) | (have s1 := hSw; go_simp; rfl)
        go_simp
        refine wpAnyH_take (i := 1) (v := ?_) rfl (by kernel_rfl) (by kernel_rfl) (by kernel_rfl) (fun _ _ _ h => h) (Or.inl ⟨by rfl, ?_⟩) s0 ?_
        rotate_left
        · intro w hSw; first | (obtain ⟨s1, s2, s3, s4, s5, s6, s7⟩ := hSw; go_simp; rfl) | (obtain ⟨s1, s2, s3⟩ := hSw; go_simp; rfl) | (obtain ⟨s1, s2⟩ := hSw; go_simp; rfl) | (have s1 := hSw; go_simp; rfl)
        go_simp
        refine wpAnyH_take (i := 2) (v := ?_) rfl (by kernel_rfl) (by kernel_rfl) (by kernel_rfl) (fun _ _ _ h => h) (Or.inl ⟨by rfl, ?_⟩) s0 ?_
        rotate_left
        · intro w hSw; first | (obtain ⟨s1, s2, s3, s4, s5, s6, s7⟩ := hSw; go_simp; rfl) | (obtain ⟨s1, s2, s3⟩ := hSw; go_simp; rfl) | (obtain ⟨s1, s2⟩ := hSw; go_simp; rfl) | (have s1 := hSw; go_simp; rfl)
        go_simp
        refine wpAnyH_take (i := 3) (v := ?_) rfl (by kernel_rfl) (by kernel_rfl) (by kernel_rfl) (fun _ _ _ h => h) (Or.inl ⟨by rfl, ?_⟩) s0 ?_
        rotate_left
        · intro w hSw; first | (obtain ⟨s1, s2, s3, s4, s5, s6, s7⟩ := hSw; go_simp; rfl) | (obtain ⟨s1, s2, s3⟩ := hSw; go_simp; rfl) | (obtain ⟨s1, s2⟩ := hSw; go_simp; rfl) | (have s1 := hSw; go_simp; rfl)
        go_simp
        refine wpAnyH_take (i := 4) (v := ?_) rfl (by kernel_rfl) (by kernel_rfl) (by kernel_rfl) (fun _ _ _ h => h) (Or.inl ⟨by rfl, ?_⟩) s0 ?_
        rotate_left
        · intro w hSw; first | (obtain ⟨s1, s2, s3, s4, s5, s6, s7⟩ := hSw; go_simp; rfl) | (obtain ⟨s1, s2, s3⟩ := hSw; go_simp; rfl) | (obtain ⟨s1, s2⟩ := hSw; go_simp; rfl) | (have s1 := hSw; go_simp; rfl)
        go_simp
        refine wpAnyH_take (i := 7) (v := ?_) rfl (by kernel_rfl) (by kernel_rfl) (by kernel_rfl) (fun _ _ _ h => h) (Or.inl ⟨by rfl, ?_⟩) s0 ?_
        rotate_left
        · intro w hSw; first | (obtain ⟨s1, s2, s3, s4, s5, s6, s7⟩ := hSw; go_simp; rfl) | (obtain ⟨s1, s2, s3⟩ := hSw; go_simp; rfl) | (obtain ⟨s1, s2⟩ := hSw; go_simp; rfl) | (have s1 := hSw; go_simp; rfl)
        go_simp
        refine wpAnyH_take (i := 8) (v := ?_) rfl (by kernel_rfl) (by kernel_rfl) (by kernel_rfl) (fun _ _ _ h => h) (Or.inl ⟨by rfl, ?_⟩) s0 ?_
        rotate_left
        · intro w hSw; first | (obtain ⟨s1, s2, s3, s4, s5, s6, s7⟩ := hSw; go_simp; rfl) | (obtain ⟨s1, s2, s3⟩ := hSw; go_simp; rfl) | (obtain ⟨s1, s2⟩ := hSw; go_simp; rfl) | (have s1 := hSw; go_simp; rfl)
        go_simp
        refine wpAnyH_take (i := 9) (v := ?_) rfl (by kernel_rfl) (by kernel_rfl) (by kernel_rfl) (fun _ _ _ h => h) (Or.inl ⟨by rfl, ?_⟩) s0 ?_
        rotate_left
        · intro w hSw; first | (obtain ⟨s1, s2, s3, s4, s5, s6, s7⟩ := hSw; go_simp; rfl) | (obtain ⟨s1, s2, s3⟩ := hSw; go_simp; rfl) | (obtain ⟨s1, s2⟩ := hSw; go_simp; rfl) | (have s1 := hSw; go_simp; rfl)
        go_simp
        refine wpAnyH_take (i := 10) (v := ?_) rfl (by kernel_rfl) (by kernel_rfl) (by kernel_rfl) (fun _ _ _ h => h) (Or.inl ⟨by rfl, ?_⟩) s0 ?_
        rotate_left
        · intro w hSw; first | (obtain ⟨s1, s2, s3, s4, s5, s6, s7⟩ := hSw; go_simp; rfl) | (obtain ⟨s1, s2, s3⟩ := hSw; go_simp; rfl) | (obtain ⟨s1, s2⟩ := hSw; go_simp; rfl) | (have s1 := hSw; go_simp; rfl)
        go_simp
        refine heldOne (i := 5) (by kernel_rfl) rfl (by rfl) (fun K hK => ?_)
        go_simp
        refine (pgone_any HS0.out.p hu1).mono ?_
        rintro e w3 ⟨x, rfl, hx, hr3, f3⟩
        have s1 := HS.out w3 f3
        obtain ⟨r1, r2, r3, r4, r5, r6⟩ := HS0.out.rows hr3 (gn_len _ _) f3
        obtain rfl := HX.out x w3 hx
        have HR3 := Lib.hid r1
        have HL3 := Lib.hid r2
        have HG3 := Lib.hid r4
        have HV3 := Lib.hid r5
        have HN3 := Lib.hid r6
        refine hK.out _ _ s1 ?_
        clear hK K hx hr3 f3 r1 r2 r4 r5 r6 s0
        refine wpAnyH_take (i := 6) (v := ?_) rfl (by kernel_rfl) (by kernel_rfl) (by kernel_rfl) (fun _ _ _ h => h) (Or.inl ⟨by rfl, ?_⟩) s1 ?_
        rotate_left
        · intro w hSw; first | (obtain ⟨s1, s2, s3, s4, s5, s6, s7⟩ := hSw; go_simp; rfl) | (obtain ⟨s1, s2, s3⟩ := hSw; go_simp; rfl) | (obtain ⟨s1, s2⟩ := hSw; go_simp; rfl) | (have s1 := hSw; go_simp; rfl)
        go_simp
        refine wpAnyH_take (i := 11) (v := ?_) rfl (by kernel_rfl) (by kernel_rfl) (by kernel_rfl) (fun _ _ _ h => h) (Or.inl ⟨by rfl, ?_⟩) s1 ?_
        rotate_left
        · intro w hSw; first | (obtain ⟨s1, s2, s3, s4, s5, s6, s7⟩ := hSw; go_simp; rfl) | (obtain ⟨s1, s2, s3⟩ := hSw; go_simp; rfl) | (obtain ⟨s1, s2⟩ := hSw; go_simp; rfl) | (have s1 := hSw; go_simp; rfl)
        go_simp
        refine wpAnyH_done (by kernel_rfl) ?_ _
        obtain ⟨y0, y1⟩ := s1
        have fv := HV3.out.frozenAt p
        have hgl3 := lt_of_cell y0
        have hvl3 := lt_of_cell y1
        go_wp2_with fail
        obtain ⟨W5, hW5⟩ : ∃ W5, w3.setCell ⟨vb, p, none⟩ (.bool false) = W5 := ⟨_, rfl⟩
        have f5 : Fr (· = vb) w3 W5 := by rw [← hW5]; exact (Fr.refl (· = vb) w3).setCell (fun _ => rfl) _
        have hv5 := (HV3.out.stored p (.bool false)).1
        rw [hW5, boolc_set] at hv5
        rw [hW5]
        have e0 : W5.cell? ⟨gb, p, none⟩ = some (.int .u64 u) := (f5.cell hgl3 hgv _).trans y0
        have hs5 := f5.size
        have hst : StF w W5 b rb B n (.slice (some ⟨gb, 0, none⟩) G.length cg) (.slice (some ⟨vb, 0, none⟩) V.length cl) (gnL l u) G (V.set p false) (k + 1) := ⟨HR3.out.keep f5 (fun e => by omega) (fun e => by omega), HL3.out, by omega, own_kept HG3.out f5 (fun kk hk e => by cases hk; exact hgv e), by rw [List.length_set]; exact hv5, HFR.out, HN3.out.then f5 (fun kk hk e => by omega)⟩
        rw [HN.out, HM.out] at hst
        have HST5 := Lib.hid hst
        have hgl5 : gb < W5.heap.size := by omega
        clear hW5 f5 hv5 hst HR3 HL3 HG3 HV3 HN3 y0 y1 fv HS0 HS HST HX HGE
        have hpf := pfind_any (k := 1) HST5.out.p hu1
        rw [HFE.out] at hpf
        have HPF := Lib.hid hpf
        clear hpf
        refine HPF.out.mono ?_
        rintro e w6 ⟨x6, rfl, hx6, hn6⟩
        have e1 := (hn6.cell hgl5 id _).trans e0
        have hgl6 := Nat.lt_of_lt_of_le hgl5 hn6.size
        have HST6 := Lib.hid (HST5.out.new hn6)
        have HX6 := Lib.hid hx6
        clear hx6 hn6 e0 HST5
        go_wp2_with fail
        refine (no_says objL 0 7 _).mono ?_
        rintro e w7 ⟨f7, rfl, hf7, hn7⟩
        have e2 := (hn7.cell hgl6 id _).trans e1
        have hgl7 := Nat.lt_of_lt_of_le hgl6 hn7.size
        have HST7 := Lib.hid (HST6.out.new hn7)
        have HSM := Lib.hid (same_says x6 f7 objL _ w7 (HG.out.keep HST7.out.n' id) (HX6.out.new hn7) hf7)
        clear hf7 hn7 e1 HST6 HX6
        go_wp2_with fail
        refine HSM.out.mono ?_
        rintro e w8 ⟨rfl, hn8⟩
        have e3 := (hn8.cell hgl7 id _).trans e2
        have hgl8 := Nat.lt_of_lt_of_le hgl7 hn8.size
        have HST8 := Lib.hid (HST7.out.new hn8)
        have hpk := pkind_any HST8.out.p hu1
        rw [HKI.out] at hpk
        have HPK := Lib.hid hpk
        clear hn8 e2 HST7 HSM hpk
        go_wp2_with fail
        refine HPK.out.mono ?_
        rintro e w9 ⟨rfl, rfl⟩
        clear HPK e3
        go_wp2_with fail
        go_roundw
        case rel => exact ⟨k + 1, _, _, _, by omega, by omega, by go_num, HST8.out⟩
        case measure => simp [intOf]; omega
    · by_cases hkl : k < K
      all_goals
        go_wp2_with fail
        refine (awake_any wr).mono ?_
        rintro e w3 ⟨rfl, hn3⟩
        have HN3 := Lib.hid (HP.out.n'.trans hn3)
        clear hn3
        go_wp2
        go_ret
        exact ⟨rfl, HN3.out⟩

end Go.Proofs.YtincfbgegoefgaaDoor
