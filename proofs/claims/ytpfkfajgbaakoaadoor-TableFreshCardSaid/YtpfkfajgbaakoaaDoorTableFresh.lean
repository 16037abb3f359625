/- No id is given twice, none is 0, and at one time no two have one: the statement's walk. -/
import Derived.Test.YtpfkfajgbaakoaaDoorTabK
import Derived.Test.YtpfkfajgbaakoaaDoorTablePlays
import Derived.Deep.DeepCutAuto
import Derived.Deep.CutBlock
import Derived.Laws.OwnMore
namespace Go.Proofs.YtpfkfajgbaakoaaDoor
open Go.RowKit

theorem u64Info : (Tryd.prog.info? 34).map (fun i => (i.zero, i.size, i.bytes)) = some (some (.int .u64 0), 1, 8) := by kernel_rfl
def u64c (l : List Nat) : List Value := l.map fun (x : Nat) => Value.int .u64 (x : Int)
theorem u64c_snoc (l : List Nat) (x : Nat) : u64c l ++ [.int .u64 x] = u64c (l ++ [x]) := by simp [u64c]
theorem u64c_get {l : List Nat} {j x : Nat} (h : l[j]? = some x) : (u64c l)[j]? = some (.int .u64 x) := by simp [u64c, h]

/-- Where the walk stands: the table, the ids given. -/
structure StG (w0 w : World) (b rb B n : Nat) (vg : Value) (l : List TR) (G : List Nat) (i : Nat) : Prop where
  p : PRep w b rb l
  len : l.length = n
  low : b < B ∧ rb < B ∧ B ≤ w.heap.size ∧ w0.heap.size ≤ rb ∧ w0.heap.size ≤ B
  g : w.ownsRow B 34 1 vg G.length (u64c G)
  f : FreshT l G i
  n' : New w0 w
section
variable {w0 w w' : World} {b rb B n i i' : Nat} {vg : Value} {l l' : List TR} {G : List Nat}
theorem StG.new (h : StG w0 w b rb B n vg l G i) (f : New w w') : StG w0 w' b rb B n vg l G i :=
  ⟨h.p.new f, h.len, by have := h.low; have := f.size; omega, own_kept h.g f (fun _ _ => id), h.f, h.n'.trans f⟩
/-- The rows turn. -/
theorem StG.rows {P : Prop} (h : StG w0 w b rb B n vg l G i) (hr : PRep w' b rb l') (hl : l'.length = l.length) (f : Fr (fun k => P ∧ k = rb) w w') :
    PRep w' b rb l' ∧ l'.length = n ∧ (b < B ∧ rb < B ∧ B ≤ w'.heap.size ∧ w0.heap.size ≤ rb ∧ w0.heap.size ≤ B) ∧ w'.ownsRow B 34 1 vg G.length (u64c G) ∧ New w0 w' := by
  have hlow := h.low
  exact ⟨hr, by rw [hl]; exact h.len, by have := f.size; omega, own_kept h.g f (fun k hk e => by have := (h.g.lt k hk).1; have := e.2; omega), h.n'.then f (fun k hk e => by have := e.2; omega)⟩
theorem StG.on {u : Nat} {E : TR → Option (Int × Int)} {R : TR → TR} {v : Value} (h : StG w0 w b rb B n vg l G i) (hR : Mild R) (e : EndP w b rb l u E R v w') : StG w0 w' b rb B n vg (onL l u R) G i := by
  obtain ⟨r1, r2, r3, r4, r5⟩ := h.rows e.2.1 (on_len _ _ _) e.2.2
  exact ⟨r1, r2, r3, r4, h.f.on u hR, r5⟩
end

set_option maxRecDepth 100000 in
set_option maxHeartbeats 8000000 in
theorem fresh_walk (m : Int) (rs : List (List Int)) (ao : Option Addr) (ca : Nat) (w : World) (hg : Laid w) (hb : -9223372036854775808 ≤ m ∧ m ≤ 9223372036854775807) (hfit : ∀ r ∈ rs, RecOk [.i64, .i64, .u64, .u64, .i64] r) (hc : Recs [.i64, .i64, .u64, .u64, .i64] w ao rs) (hml : rs.length ≤ 9223372036854775807) :
    Calls Tryd.prog 4 #[.int .i64 m, .slice ao rs.length ca] w fun e w' => e = .returned (.bool true) ∧ New w w' := by
  obtain ⟨K, hK⟩ : ∃ K, rs.length = K := ⟨_, rfl⟩
  rw [hK] at hml ⊢
  obtain ⟨q, hq, hq5⟩ := within_nat m 5 (by omega)
  have hwd := within_any m 5 w (by omega) (by omega) (by omega) (by omega)
  rw [hq] at hwd
  have HG := Lib.hid hg
  have HC := Lib.hid hc
  have HFIT := Lib.hid hfit
  have HK := Lib.hid hK
  have HWD := Lib.hid hwd
  obtain ⟨i0, hi, hz0, hz1, hz2⟩ := info_parts u64Info
  clear hg hc hfit hK hwd hq
  go_enter Tryd.func4, Tryd.ntmps4
  go_wp2_with fail
  refine HWD.out.mono ?_
  rintro e w1 ⟨rfl, rfl⟩
  clear HWD
  go_wp2_with fail
  try rw [show (1 : Int) + (q : Int) = ((q + 1 : Nat) : Int) by omega]
  obtain ⟨n, hn⟩ : ∃ n, q + 1 = n := ⟨_, rfl⟩
  rw [hn]
  have hn1 : 1 ≤ n := by omega
  have hn2 : n ≤ 64 := by omega
  clear hn hq5
  refine (new_any n _ hn1 hn2).mono ?_
  rintro e w1 ⟨b, rb, rfl, hb1, hrb1, hr, hnw1⟩
  obtain ⟨B, hB⟩ : ∃ B, w1.heap.size = B := ⟨_, rfl⟩
  have HP := Lib.hid (show StG w w1 b rb B n (.slice none 0 0) (List.replicate n noneR) [] 0 from ⟨hr, by simp, by have := hr.hd.lt; have := hr.rows.lt; have := hnw1.size; omega, World.ownsRow_nil _ _ _ _, FreshT.start n hn2, hnw1⟩)
  clear hr hnw1 hb1 hrb1 hB
  go_wp2_with fail
  go_loopw [7, 8] (fun vg i wr => ∃ (k : Nat) (l : List TR) (G : List Nat), k ≤ K ∧ k ≤ 80 ∧ i = .int .i64 k ∧ StG w wr b rb B n vg l G k) (fun _ i _ => K - (intOf i).toNat)
  case atStart => exact ⟨0, _, [], by omega, by omega, rfl, HP.out⟩
  case round =>
    clear HP
    obtain ⟨k, l, G, hk, hk3, rfl, hpl⟩ := hrel
    have HP := Lib.hid hpl
    clear hpl
    by_cases hend : k < K ∧ k < 80
    · obtain ⟨hlt, hlt3⟩ := hend
      obtain ⟨d, who, u, v, S, g0, off, rfl, hg0, hu, hv, hd1, hd2, ho1, ho2, hcell⟩ := op_at HC.out HFIT.out (by rw [HK.out]; exact hlt)
      have HCELL := Lib.hid hcell
      obtain ⟨ag, cg, rfl, hcg⟩ := owned_form HP.out.g
      have hfm := FreshT.born HP.out.f (by omega) (by rw [HP.out.len]; omega) 9
      have hpm := pborn_any b rb l 9 wr HP.out.p (fun r hr => by have := HP.out.f.tk r hr; omega)
      have hlen := HP.out.f.len
      obtain ⟨N, hN⟩ : ∃ N, G.length = N := ⟨_, rfl⟩
      have HN := Lib.hid hN
      have HFM := Lib.hid hfm
      have HPM := Lib.hid hpm
      rw [hN] at hlen
      have hln := hlen.2.1
      have hcapg := doc_cap HP.out.g
      rw [hN] at hcapg
      clear hfm hpm hcg hlen hcell
      go_wp2_with fail
      rw [hN]
      clear hN
      refine HPM.out.mono ?_
      rintro e w1 ⟨x, rfl, hx, hr1, f1⟩
      obtain ⟨r1, r2, r3, r4, r5⟩ := HP.out.rows hr1 (born_len _ _) f1
      have HR1 := Lib.hid r1
      have HL1 := Lib.hid r2
      have HG1 := Lib.hid (show w1.ownsRow B 34 1 (.slice ag N cg) N (u64c G) by rw [HN.out] at r4; exact r4)
      have HN1 := Lib.hid r5
      have hxx : (bornE l = none ∧ x = .nilIface) ∨ (bornE l = some (0, 3) ∧ ∃ eb, x = .iface 72 (.pointer (some ⟨eb, 0, none⟩))) := by
        rcases HFM.out with ⟨e1, _⟩ | ⟨e1, _⟩
        · rw [e1] at hx; exact .inr ⟨e1, hx.at⟩
        · rw [e1] at hx; exact .inl ⟨e1, hx⟩
      obtain ⟨h, hhe⟩ : ∃ h, bornI l = h := ⟨_, rfl⟩
      rw [hhe] at HFM ⊢
      have HXX := Lib.hid hxx
      have HF0 := Lib.hid HP.out.f
      clear hx hr1 f1 r1 r2 r4 r5 hxx HPM HP hhe
      go_upto_region 9 with fail
      go_cut [45] (fun s wx => ∃ y : Bool, s = .bool y ∧ (y = true → bornE l = none) ∧ (y = false → bornE l = some (0, 3)) ∧ w1 = wx)
      case first => as_aux_lemma =>
        rcases HXX.out with ⟨e1, rfl⟩ | ⟨e1, eb, rfl⟩
        · go_wp2_with fail
          go_meet
          case rel => exact ⟨true, rfl, fun _ => e1, fun h => Bool.noConfusion h, rfl⟩
        · go_wp2_with fail
          go_meet
          case rel => exact ⟨false, rfl, fun h => Bool.noConfusion h, fun _ => e1, rfl⟩
      obtain ⟨y, rfl, hy1, hy2, rfl⟩ := hcut
      have HY1 := Lib.hid hy1
      have HY2 := Lib.hid hy2
      clear hy1 hy2 HXX
      go_upto_if 45 with fail
      go_cut [7] (fun vg wx => ∃ (l : List TR) (G : List Nat), StG w wx b rb B n vg l G (k + 1) ∧ G ≠ [])
      case first => as_aux_lemma =>
        cases y with
        | false =>
          have e1 := HY2.out rfl
          rcases HFM.out with ⟨_, e2, e3⟩ | ⟨e2, _⟩
          · have hst : StG w w1 b rb B n (.slice ag N cg) l G (k + 1) := ⟨by rw [← e2]; exact HR1.out, by rw [← e2]; exact HL1.out, r3, by rw [HN.out]; exact HG1.out, HF0.out.up (by omega), HN1.out⟩
            have HST := Lib.hid hst
            clear hst e1 e2
            go_wp2_with fail
            go_meet
            case rel => exact ⟨l, G, HST.out, e3⟩
          · rw [e1] at e2; cases e2
        | true =>
          have e1 := HY1.out rfl
          rcases HFM.out with ⟨e2, _⟩ | ⟨_, hnG, hh0, hh1, hfr⟩
          · rw [e1] at e2; cases e2
          · generalize bornL l 9 = l2 at HR1 HL1 hfr
            obtain ⟨a1, c1, e3, hcell⟩ := owned_form HG1.out
            obtain ⟨rfl, rfl⟩ : ag = a1 ∧ cg = c1 := by simpa using e3
            have HCL := Lib.hid hcell
            have HNG := Lib.hid hnG
            have HFR := Lib.hid hfr
            have t1 : ((h : Int) == 0) = false := by rw [beq_eq_false_iff_ne]; omega
            have HAG := Lib.hid (show ∀ kk, (Value.slice ag N cg).ownBlock = some kk → B ≤ kk from fun kk e => (HG1.out.lt kk e).1)
            clear e1 hnG hfr hcell e3
            go_wp2_with fail
            go_loop [11] (fun i => ∃ j : Nat, j ≤ N ∧ i = .int .i64 j) (fun i => N - (intOf i).toNat)
            case atStart => exact ⟨0, by omega, rfl⟩
            case round =>
              obtain ⟨j, hjn, rfl⟩ := hrel
              by_cases hlt2 : j < N
              · obtain ⟨u, hu⟩ : ∃ u, G[j]? = some u := ⟨G[j]'(by rw [HN.out]; exact hlt2), by simp⟩
                obtain ⟨g, rfl, _, hg1, x0⟩ := HCL.out j _ (u64c_get hu)
                have t4 : ((u : Int) == (h : Int)) = false := by
                  rw [beq_eq_false_iff_ne]
                  intro e
                  exact HNG.out (by rw [show h = u by omega]; exact List.mem_of_getElem? hu)
                have q1 : (0 : Int) ≤ (j : Int) := by omega
                have q2 : (j : Int) < (N : Int) := by omega
                clear hu
                go_wp2_with fail
                go_round
                case rel => exact ⟨j + 1, by omega, by go_num⟩
                case measure => simp [intOf]; omega
              · go_wp2_with (at_builtin; go_loud (refine wpList_append_own _ rfl (.tmp 60) (.tmp 62) 40 rfl B 34 i0 _ 1 8 Tryd.underlying40 hi hz0 hz1 hz2 rfl (by decide) _ _ _ rfl (HG1.out.alloc _) ⟨w1.heap.size, 0, none⟩ 1 1 [.int .u64 h] rfl rfl (Arr.add (Arr.new _ _ _)) (by simp [Value.oneCell']) (by unfold maxLen; omega) (by omega) (by simp; omega) ?_; intro vg' w3 hown3 hgrow hnil; clear hnil; have f3 : Fr (fun kk => (Value.slice ag N cg).ownBlock = some kk) w1 w3 := (((Fr.refl _ w1).alloc _).grown hgrow (fun kk hkk _ => hkk)); have HO3 := Lib.hid hown3; have HF3 := Lib.hid f3; have hs3 := f3.size; clear hown3 hgrow f3))
                go_meet
                case rel => exact ⟨l2, G ++ [h], ⟨HR1.out.keep HF3.out (fun e => by have := HAG.out _ e; omega) (fun e => by have := HAG.out _ e; omega), HL1.out, by omega,
                  by rw [← u64c_snoc, List.length_append, HN.out]; exact HO3.out, HFR.out,
                  HN1.out.then HF3.out (fun kk hk e => by have := HAG.out _ e; omega)⟩, by simp⟩
      clear HFM HR1 HL1 HG1 HN1 HF0 HY1 HY2 r3 hcapg HN hln
      obtain ⟨l, G, hst, hne⟩ := hcut
      obtain ⟨N, hN⟩ : ∃ N, G.length = N := ⟨_, rfl⟩
      have hlen := hst.f.len
      have hN1 : 1 ≤ N := by
        cases G with
        | nil => exact absurd rfl hne
        | cons x r => rw [← hN]; simp
      rw [hN] at hlen
      have hNk : N ≤ k + 1 := hlen.2.1
      obtain ⟨p, hp, hp5⟩ := within_nat who N (by omega)
      have hwd := fun w => within_any who N w (by omega) (by omega) ho1 ho2
      rw [hp] at hwd
      obtain ⟨q, hq, hq4⟩ := within_nat d 4 (by omega)
      have hwd2 := fun w => within_any d 4 w (by omega) (by omega) hd1 hd2
      rw [hq] at hwd2
      obtain ⟨id, hid⟩ : ∃ id, G[p]? = some id := ⟨G[p]'(by rw [hN]; omega), by simp⟩
      have hidl := hst.f.lt (List.mem_of_getElem? hid)
      obtain ⟨ag, cg, rfl, hcg⟩ := owned_form hst.g
      have hcapg := doc_cap hst.g
      obtain ⟨gb, rfl, hgB, hgl, y0⟩ := hcg p _ (u64c_get hid)
      obtain ⟨c0, c1, _, _, _⟩ := HCELL.out wc hst.n'
      rw [hN] at hcapg
      have HWD := Lib.hid hwd
      have HWD2 := Lib.hid hwd2
      have HST := Lib.hid hst
      have HNN := Lib.hid hN
      have q1 : (0 : Int) ≤ (p : Int) := by omega
      have q2 : (p : Int) < (N : Int) := by omega
      have e0 : ((N : Int) == 0) = false := by rw [beq_eq_false_iff_ne]; omega
      clear hst hne hp hq hwd hwd2 hid hcg hlen HCELL hi hz0 hz1 hz2
      go_wp2_with fail
      rw [hN]
      refine (HWD.out _).mono ?_
      rintro e w' ⟨rfl, rfl⟩
      clear hN
      go_wp2_with fail
      refine (HWD2.out _).mono ?_
      rintro e w' ⟨rfl, rfl⟩
      clear HWD HWD2 c0 c1 y0 e0
      go_upto_block 4 with fail
      go_cut [] (fun wx => ∃ l2, StG w wx b rb B n (.slice (some ⟨gb, 0, none⟩) G.length cg) l2 G (k + 1))
      case first => as_aux_lemma =>
        rcases (show q = 0 ∨ q = 1 ∨ (q ≠ 0 ∧ q ≠ 1) by omega) with rfl | rfl | ⟨h0, h1⟩
        · rw [show ((0 : Nat) : Int) = 0 from rfl]
          go_wp2_with fail
          refine (ploose_any b rb l id wc HST.out.p hidl).mono ?_
          rintro e w3 ⟨x, rfl, he⟩
          have G3 := Lib.hid (HST.out.on mild_loose he)
          clear he
          go_wp2_with fail
          go_meet
          case rel => exact ⟨_, G3.out⟩
        · rw [show ((1 : Nat) : Int) = 1 from rfl]
          go_wp2_with fail
          refine (preap_any b rb l id wc HST.out.p hidl).mono ?_
          rintro e w3 ⟨x, rfl, he⟩
          have G3 := Lib.hid (HST.out.on mild_reap he)
          clear he
          go_wp2_with fail
          go_meet
          case rel => exact ⟨_, G3.out⟩
        · have e0 : ((q : Int) == 0) = false := by rw [beq_eq_false_iff_ne]; omega
          have e1 : ((q : Int) == 1) = false := by rw [beq_eq_false_iff_ne]; omega
          go_wp2_with fail
          go_meet
          case rel => exact ⟨_, HST.out⟩
      clear HST
      obtain ⟨l3, hst3⟩ := hcut
      have H3 := Lib.hid hst3
      clear hst3
      go_wp2_with fail
      refine (pend_any b rb l3 id 1 _ H3.out.p hidl).mono ?_
      rintro e w3 ⟨x, rfl, he⟩
      have H4 := Lib.hid (H3.out.on (mild_end 1) he)
      generalize onL l3 id (endR 1) = l4 at H4
      clear he H3
      go_wp2_with fail
      refine (pleave_any b rb l4 id _ H4.out.p hidl).mono ?_
      rintro e w4 ⟨x, rfl, he⟩
      have H5 := Lib.hid (H4.out.on mild_leave he)
      generalize onL l4 id leaveR = l5 at H5
      clear he H4
      go_wp2_with fail
      refine (pall_any b rb l5 _ H5.out.p).mono ?_
      rintro e w5 ⟨vl, rfl, hw, hn5⟩
      have H6 := Lib.hid (H5.out.new hn5)
      obtain ⟨al, cl, rfl, _⟩ := owned_form hw
      have hcapl := doc_cap hw
      have hat := fun (p : Nat) (r : TR) (h : (live l5)[p]? = some r) => flat_at tC 7 tC_len hw h (by omega)
      have HAT := Lib.hid hat
      have hlv := live_le l5
      have hl64 := H6.out.p.len
      obtain ⟨M, hM⟩ : ∃ M, (live l5).length = M := ⟨_, rfl⟩
      have HMM := Lib.hid hM
      have HLI := Lib.hid (fun (a b : Nat) (x y : TR) (hab : b < a) (ha : (live l5)[a]? = some x) (hb : (live l5)[b]? = some y) => live_ids H6.out.f.pl hl64 hab ha hb)
      rw [hM] at hcapl hlv ⊢
      clear hw hat hn5 H5 hM
      go_wp2_with fail
      go_loopw [14] (fun i wr => ∃ a : Nat, a ≤ M ∧ i = .int .i64 a ∧ New w5 wr) (fun i _ => M - (intOf i).toNat)
      case atStart => exact ⟨0, by omega, rfl, Fr.refl _ _⟩
      case round =>
        obtain ⟨a, ha, rfl, hna⟩ := hrel
        by_cases hlta : a < M
        · obtain ⟨ra, hra⟩ : ∃ r, (live l5)[a]? = some r := ⟨(live l5)[a]'(by rw [HMM.out]; exact hlta), by simp⟩
          obtain ⟨g1, rfl, hg1, e1⟩ := HAT.out a ra hra
          have HNA := Lib.hid hna
          clear hna
          go_wp2_with fail
          go_loopw [15] (fun i wr => ∃ c : Nat, c ≤ a ∧ i = .int .i64 c ∧ New w5 wr) (fun i _ => a - (intOf i).toNat)
          case atStart => exact ⟨0, by omega, rfl, HNA.out⟩
          case round =>
            obtain ⟨c, hc, rfl, hnc⟩ := hrel
            by_cases hltc : c < a
            · obtain ⟨rc, hrc⟩ : ∃ r, (live l5)[c]? = some r := ⟨(live l5)[c]'(by rw [HMM.out]; omega), by simp⟩
              obtain ⟨g2, e2', hg2, e2⟩ := HAT.out c rc hrc
              obtain rfl : g1 = g2 := by simpa using e2'
              have x0 : wr.cell? ⟨g1, a * 7, none⟩ = some (.int .u64 ra.id) := (hnc.cell hg1 (fun h => h) _).trans (e1 0 _ rfl)
              have x1 : wr.cell? ⟨g1, c * 7, none⟩ = some (.int .u64 rc.id) := (hnc.cell hg1 (fun h => h) _).trans (e2 0 _ rfl)
              have t1 : ((ra.id : Int) == (rc.id : Int)) = false := by
                have := HLI.out a c ra rc hltc hra hrc
                rw [beq_eq_false_iff_ne]; omega
              have q3 : (0 : Int) ≤ (a : Int) := by omega
              have q4 : (a : Int) < (M : Int) := by omega
              have q5 : (0 : Int) ≤ (c : Int) := by omega
              have q6 : (c : Int) < (M : Int) := by omega
              have HNC := Lib.hid hnc
              clear hnc hrc e2 e2'
              go_wp2_with fail
              go_quiet (fail)
              go_wp2
              go_roundw
              case rel => exact ⟨c + 1, by omega, by go_num, HNC.out.drewN _⟩
              case measure => simp [intOf]; omega
            · have HNC := Lib.hid hnc
              clear hnc
              go_wp2_with fail
              go_roundw
              case rel => exact ⟨a + 1, by omega, by go_num, HNC.out⟩
              case measure => simp [intOf]; omega
        · have H7 := Lib.hid (H6.out.new hna)
          clear hna H6
          go_wp2_with fail
          go_roundw
          case rel => exact ⟨k + 1, l5, G, by omega, by omega, by go_num, by have h7 := H7.out; rw [HNN.out] at h7; exact h7⟩
          case measure => simp [intOf]; omega
    · by_cases hkl : k < K
      all_goals
        go_wp2_with fail
        refine (awake_any wr (HG.out.keep HP.out.n' id)).mono ?_
        rintro e w3 ⟨rfl, hn3⟩
        have HN3 := Lib.hid (HP.out.n'.trans hn3)
        clear hn3
        go_wp2
        go_ret
        exact ⟨rfl, HN3.out⟩

end Go.Proofs.YtpfkfajgbaakoaaDoor
