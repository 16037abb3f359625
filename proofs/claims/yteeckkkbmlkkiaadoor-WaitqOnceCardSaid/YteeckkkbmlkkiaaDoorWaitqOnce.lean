/- Each id is in one queue, in the bucket of its address: the statement's walk. -/
import Derived.Test.YteeckkkbmlkkiaaDoorWaitK
import Derived.Test.YteeckkkbmlkkiaaDoorWithin
namespace Go.Proofs.YteeckkkbmlkkiaaDoor
open Go.RowKit Go.Maps

theorem intInfo : (Tryd.prog.info? 3).map (fun i => (i.zero, i.size, i.bytes)) = some (some (.int .i64 0), 1, 8) := by kernel_rfl
/-- How often each number was seen. -/
def cntL (seen : List Nat) (X : Nat) : List Value := (List.range (X + 1)).map fun j => Value.int .i64 ((seen.count j : Nat) : Int)
theorem cntL_get (seen : List Nat) (X j : Nat) (h : j ≤ X) : (cntL seen X)[j]? = some (.int .i64 ((seen.count j : Nat) : Int)) := by
  unfold cntL; rw [List.getElem?_map, List.getElem?_range (by omega)]; rfl
theorem cntL_set (seen : List Nat) (X x : Nat) : (cntL seen X).set x (.int .i64 (((seen.count x : Nat) : Int) + 1)) = cntL (seen ++ [x]) X := by
  apply List.ext_getElem?
  intro j
  by_cases hj : j ≤ X
  · rw [cntL_get _ _ _ hj, List.count_append]
    by_cases e : x = j
    · subst e
      rw [List.getElem?_set_self (by simp [cntL]; omega)]
      simp
    · rw [List.getElem?_set_ne e, cntL_get _ _ _ hj]
      rw [show List.count j [x] = 0 by simp [List.count_cons, e]]; rfl
  · rw [List.getElem?_eq_none (by simp [cntL]; omega), List.getElem?_eq_none (by simp [cntL]; omega)]
theorem cntL_zero (X : Nat) : ((List.replicate (X + 1) ()).flatMap fun _ => [Value.int .i64 0]) = cntL [] X := by
  unfold cntL
  apply List.ext_getElem?
  intro j
  rw [flatMap_replicate (fun _ : Unit => [Value.int .i64 0]) ()]
  have h := get_flatMap (fun _ : Unit => [Value.int .i64 0]) 1 (fun _ => rfl) (List.replicate (X + 1) ()) j 0 (by omega)
  rw [show j * 1 + 0 = j by omega] at h
  rw [h]
  by_cases hj : j < X + 1
  · simp [hj]
  · simp [hj]
/-- Who was seen in the first b buckets. -/
noncomputable def seenB (L : List Sl) (b : Nat) : List Nat := (List.range b).flatMap fun j => (inB (bucketN · 4) L j).map Sl.id
theorem seenB_succ (L : List Sl) (b : Nat) : seenB L (b + 1) = seenB L b ++ (inB (bucketN · 4) L b).map Sl.id := by
  unfold seenB; rw [List.range_succ, List.flatMap_append]; simp
theorem seenB_len (L : List Sl) : ∀ b, (seenB L b).length ≤ b * L.length
  | 0 => by simp [seenB]
  | b + 1 => by
    rw [seenB_succ, List.length_append, List.length_map, Nat.add_mul]
    have h1 := seenB_len L b
    have h2 : (inB (bucketN · 4) L b).length ≤ L.length := List.length_filter_le _ _
    omega
theorem inB_cons (bf : Nat → Nat) (s : Sl) (r : List Sl) (b : Nat) : inB bf (s :: r) b = if bf s.addr = b then s :: inB bf r b else inB bf r b := by
  unfold inB
  by_cases e : bf s.addr = b
  · rw [List.filter_cons_of_pos (by simpa using e), if_pos e]
  · rw [List.filter_cons_of_neg (by simpa using e), if_neg e]
theorem seen_count (L : List Sl) (j : Nat) : (seenB L 4).count j = (L.map Sl.id).count j := by
  have h4 : ∀ M : List Sl, (seenB M 4).count j = ((inB (bucketN · 4) M 0).map Sl.id).count j + ((inB (bucketN · 4) M 1).map Sl.id).count j + ((inB (bucketN · 4) M 2).map Sl.id).count j + ((inB (bucketN · 4) M 3).map Sl.id).count j := by
    intro M
    rw [seenB_succ, seenB_succ, seenB_succ, seenB_succ, List.count_append, List.count_append, List.count_append, List.count_append]
    simp [seenB]
  rw [h4]
  induction L with
  | nil => rfl
  | cons s r ih =>
    have hb := bucketN_lt s.addr 4 (by omega)
    rw [List.map_cons, List.count_cons, ← ih]
    simp only [inB_cons]
    have hc : bucketN s.addr 4 = 0 ∨ bucketN s.addr 4 = 1 ∨ bucketN s.addr 4 = 2 ∨ bucketN s.addr 4 = 3 := by omega
    rcases hc with e | e | e | e <;> simp [e, List.count_cons] <;> omega
theorem seen_one {L : List Sl} (h : Once L) {s : Sl} (hs : s ∈ L) : (seenB L 4).count s.id = 1 := by
  rw [seen_count]
  have hn : (L.map Sl.id).Nodup := by
    unfold List.Nodup
    rw [List.pairwise_map]
    exact List.Pairwise.imp (fun h => h.1) h
  have hm : s.id ∈ L.map Sl.id := List.mem_map.2 ⟨s, hs, rfl⟩
  rw [hn.count, if_pos hm]

set_option maxRecDepth 100000 in
set_option maxHeartbeats 8000000 in
theorem once_walk (xs : List Nat) (ao : Option Addr) (ca : Nat) (dr : Int) (ag : Nat) (w : World) (hg : Laid w) (hx : Nats w ao xs) (hm : xs.length ≤ 9223372036854775807) (hxf : ∀ x ∈ xs, x < 18446744073709551616) (hd1 : -9223372036854775808 ≤ dr) (hd2 : dr ≤ 9223372036854775807) (ha : ag < 18446744073709551616) :
    Calls Tryd.prog 4 #[.slice ao xs.length ca, .int .i64 dr, .int .u64 ag] w fun e w' => e = .returned (.bool true) ∧ New w w' := by
  obtain ⟨X, hX⟩ : ∃ X, xs.length = X := ⟨_, rfl⟩
  rw [hX] at hm ⊢
  have HG := Lib.hid hg
  have HX := Lib.hid hx
  have HXL := Lib.hid hX
  have HXF := Lib.hid hxf
  clear hg hx hX hxf
  by_cases hbig : 40 < X ∨ X = 0
  · rcases hbig with hbig | rfl
    all_goals
      try rw [show (((0 : Nat)) : Int) = 0 from rfl] at *
      go_enter Tryd.func4, Tryd.ntmps4
      go_wp2_with fail
      refine (awake_any _).mono ?_
      rintro e w1 ⟨rfl, hn1⟩
      have HN := Lib.hid hn1
      clear hn1
      go_wp2
      go_ret
      exact ⟨rfl, HN.out⟩
  have hl : X ≤ 40 := by omega
  have hl0 : 1 ≤ X := by omega
  have t0 : ((X : Int) == 0) = false := by rw [beq_eq_false_iff_ne]; omega
  clear hbig
  have hfd := filled_any xs [] ao none ca 0 w HX.out (fun j x h => by simp at h) (by rw [HXL.out]; omega) (by simp) HXF.out (fun x h => by simp at h)
  rw [HXL.out] at hfd
  have HFD := Lib.hid hfd
  obtain ⟨i0, hi, hz0, hz1, hz2⟩ := info_parts intInfo
  clear hfd
  go_enter Tryd.func4, Tryd.ntmps4
  go_wp2_with fail
  refine HFD.out.mono ?_
  rintro e w1 ⟨qb, lb, mb, L, rfl, hr, hfil, hfr, hn1⟩
  have HR := Lib.hid hr
  have HN := Lib.hid hn1
  have HFI := Lib.hid hfil
  have HFR := Lib.hid hfr
  clear hr hn1 hfil hfr HFD
  go_wp2_with (at_make; refine wpList_make_full _ rfl (.tmp 37) (.tmp 37) 38 rfl w1.heap.size 3 i0 _ 1 Tryd.underlying38 hi hz0 hz1 .i64 .i64 (X + 1) (X + 1) (X + 1) rfl rfl rfl rfl (by rw [hz2]; omega) (by unfold maxLen; omega) (by omega) ?_; intro w2 hown hgrow)
  have harr := Arr.of_owns hown
  rw [show (madeCells (Value.int .i64 0).cells ((X + 1) * 1)).toList = (List.replicate (X + 1) ()).flatMap fun _ => [Value.int .i64 0] from madeRows [.int .i64 0] (by simp) (X + 1), cntL_zero] at harr
  have f2 : New w1 w2 := (Fr.refl _ _).grown hgrow (fun _ h => by cases h)
  have HQ := Lib.hid (show ∀ k, qOwn qb lb mb L k → k < w1.heap.size from fun k hk => HR.out.lt hk)
  obtain ⟨cb, hcb⟩ : ∃ cb, w1.heap.size = cb := ⟨_, rfl⟩
  rw [hcb] at harr HQ
  have HCB := Lib.hid (show w.heap.size ≤ cb by rw [← hcb]; exact HN.out.size)
  rw [show w1.heap.size = cb from hcb]
  have HAR := Lib.hid harr
  have HR2 := Lib.hid (HR.out.new f2)
  have HN2 := Lib.hid (HN.out.trans f2)
  clear harr f2 hown hgrow hcb hi hz0 hz1 hz2 HR HN
  go_loopw [9] (fun b wr => ∃ k : Nat, k ≤ 4 ∧ b = .int .i64 k ∧ QRep wr qb lb mb 4 L ∧ Arr wr cb (cntL (seenB L k) X) ∧ New w wr) (fun b _ => 4 - (intOf b).toNat)
  case atStart => exact ⟨0, by omega, rfl, HR2.out, HAR.out, HN2.out⟩
  case round =>
    clear HR2 HAR HN2
    obtain ⟨b, hb, rfl, hr, har, hn⟩ := hrel
    have HR := Lib.hid hr
    have HAR := Lib.hid har
    have HN := Lib.hid hn
    clear hr har hn
    by_cases hlt : b < 4
    · have hbl : (inB (bucketN · 4) L b).length ≤ 40 := Nat.le_trans (List.length_filter_le _ _) (by rw [HFI.out.len]; omega)
      go_wp2_with fail
      refine (bucket_list qb lb mb 4 L b wr HR.out hlt).mono ?_
      rintro e w3 ⟨v, rfl, hown, hn3⟩
      have HWS := Lib.hid (show cb < wr.heap.size from HAR.out.lt)
      obtain ⟨base, hbase⟩ : ∃ x, wr.heap.size = x := ⟨_, rfl⟩
      rw [hbase] at hown HWS
      obtain ⟨l, hl2⟩ : ∃ l, inB (bucketN · 4) L b = l := ⟨_, rfl⟩
      have HL2 := Lib.hid hl2
      rw [hl2] at hown hbl
      obtain ⟨n, hln⟩ : ∃ n, l.length = n := ⟨_, rfl⟩
      have HLN := Lib.hid hln
      rw [hln] at hown hbl
      obtain ⟨bo, cap, rfl, _⟩ := owned_form hown
      have HO := Lib.hid hown
      have HR3 := Lib.hid (HR.out.new hn3)
      have HAR3 := Lib.hid (HAR.out.keep hn3 id)
      have HN3 := Lib.hid (HN.out.trans hn3)
      have HBA := Lib.hid (show w.heap.size ≤ base by rw [← hbase]; exact HN.out.size)
      clear hown hn3 hbase hl2 hln HR HAR HN
      go_wp2_with fail
      go_loopw [11] (fun i wr => ∃ k : Nat, k ≤ n ∧ i = .int .i64 k ∧ QRep wr qb lb mb 4 L ∧ Arr wr cb (cntL (seenB L b ++ (l.take k).map Sl.id) X) ∧ wr.ownsRow base 36 1 (.slice bo n cap) n (u64c (l.map Sl.id)) ∧ New w wr) (fun i _ => n - (intOf i).toNat)
      case atStart => exact ⟨0, by omega, rfl, HR3.out, by simpa using HAR3.out, HO.out, HN3.out⟩
      case round =>
        clear HR3 HAR3 HN3 HO
        obtain ⟨k, hk, rfl, hr, har, hown, hn⟩ := hrel
        have HR := Lib.hid hr
        have HAR := Lib.hid har
        have HO := Lib.hid hown
        have HN := Lib.hid hn
        by_cases hlt2 : k < n
        · obtain ⟨s, hs⟩ : ∃ s, l[k]? = some s := ⟨l[k]'(by rw [HLN.out]; exact hlt2), by simp⟩
          have hsl := List.mem_of_getElem? hs
          rw [← HL2.out] at hsl
          obtain ⟨hsL, hsb⟩ := inB_mem.1 hsl
          obtain ⟨j, hj, ej, hjX⟩ := HFI.out.mem hsL
          obtain ⟨_, _, efrm, hcell⟩ := owned_form hown
          cases efrm
          obtain ⟨g, rfl, hg1, hg2, hg3⟩ := hcell k _ (u64c_get (by rw [List.getElem?_map, hs]; rfl) : (u64c (l.map Sl.id))[k]? = some (.int .u64 s.id))
          have hgc : g ≠ cb := by have := HWS.out; omega
          have hwh := where_ok qb lb mb 4 L s wr hr hsL
          rw [hsb] at hwh
          have HWH := Lib.hid hwh
          have HST := Lib.hid (show (l.take (k + 1)).map Sl.id = (l.take k).map Sl.id ++ [s.id] by rw [List.take_add_one, hs]; simp)
          have hea := hr.each s hsL
          have u1 : ¬ ((s.id : Int) < 1) := by omega
          have u2 : ¬ ((X : Int) < (s.id : Int)) := by omega
          have u3 : IntKind.u64.wrap (X : Int) = (X : Int) := by simp [IntKind.wrap, IntKind.signed, IntKind.bits]; omega
          have u4 : ((b : Int) != (b : Int)) = false := by simp
          have u5 : (s.id : Int) < (X : Int) + 1 := by omega
          have u6 : (0 : Int) ≤ (s.id : Int) := by omega
          clear hwh hr har hown hn hs hsl hsL hsb hj hcell ej
          go_wp2_with fail
          refine HWH.out.mono ?_
          rintro e w4 ⟨rfl, hn4⟩
          have har4 := HAR.out.keep hn4 id
          have cc := har4.cell s.id _ (cntL_get _ _ _ (by omega))
          have hll : ((seenB L b ++ (l.take k).map Sl.id).count s.id) ≤ 1000000 := by
            have h1 := seenB_len L b
            have h2 : b * L.length ≤ 4 * L.length := Nat.mul_le_mul_right _ (by omega)
            rw [HFI.out.len] at h1 h2
            refine Nat.le_trans List.count_le_length ?_
            rw [List.length_append, List.length_map, List.length_take]; omega
          generalize hcv : ((seenB L b ++ (l.take k).map Sl.id).count s.id) = cv at cc hll
          have HCV := Lib.hid hcv
          have cz := har4.free s.id
          have clt := har4.lt
          have hg4 := (hn4.cell hg2 id k).trans hg3
          have hg5 := Nat.lt_of_lt_of_le hg2 hn4.size
          have HAR4 := Lib.hid har4
          have HR4 := Lib.hid (HR.out.new hn4)
          have HN4 := Lib.hid (HN.out.trans hn4)
          have HO4 := Lib.hid (own_keep HO.out hn4 (fun _ _ => id))
          clear har4 hn4 HAR HR HN HO hcv hg3
          go_wp2_with fail
          go_roundw
          case rel => exact ⟨k + 1, by omega, by go_num, HR4.out.keep ((Fr.refl (· = cb) w4).setCell (fun _ => rfl) _) (fun kk hk e => by have := HQ.out kk hk; omega), by
            rw [HST.out, ← List.append_assoc, ← cntL_set, HCV.out]; exact HAR4.out.set _ _, own_keep HO4.out ((Fr.refl (· = cb) w4).setCell (fun _ => rfl) _) (fun kk hk e => by have := HWS.out; omega), HN4.out.then ((Fr.refl (· = cb) w4).setCell (fun _ => rfl) _) (fun i hi e => by have := HCB.out; omega)⟩
          case measure => simp [intOf]; omega
        · obtain rfl : n = k := by omega
          clear hr har hown hn
          go_wp2_with fail
          refine (spoil_any _ _ _ _ wr HO.out).mono ?_
          rintro e w4 ⟨rfl, hf4⟩
          have HR4 := Lib.hid (HR.out.keep hf4 (fun kk hk e => by have := HQ.out kk hk; have := HWS.out; omega))
          have HAR4 := Lib.hid (HAR.out.keep hf4 (by have := HWS.out; omega))
          have HN4 := Lib.hid (HN.out.then hf4 (fun i hi e => by have := HBA.out; omega))
          have HSN := Lib.hid (show seenB L b ++ (l.take n).map Sl.id = seenB L (b + 1) by rw [seenB_succ, HL2.out, List.take_of_length_le (by rw [HLN.out]; omega)])
          clear hf4 HO HR HAR HN
          go_wp2_with fail
          go_roundw
          case rel => exact ⟨b + 1, by omega, by go_num, HR4.out, by rw [← HSN.out]; exact HAR4.out, HN4.out⟩
          case measure => simp [intOf]; omega
    · obtain rfl : b = 4 := by omega
      rw [show ((4 : Nat) : Int) = 4 from rfl]
      go_wp2_with fail
      go_loopw [16] (fun i wr => ∃ k : Nat, 1 ≤ k ∧ k ≤ X + 1 ∧ i = .int .i64 k ∧ QRep wr qb lb mb 4 L ∧ Arr wr cb (cntL (seenB L 4) X) ∧ New w wr) (fun i _ => X + 1 - (intOf i).toNat)
      case atStart => exact ⟨1, by omega, by omega, rfl, HR.out, HAR.out, HN.out⟩
      case round =>
        clear HR HAR HN
        obtain ⟨k, hk1, hk, rfl, hr, har, hn⟩ := hrel
        have HR := Lib.hid hr
        have HAR := Lib.hid har
        have HN := Lib.hid hn
        by_cases hlt2 : k < X + 1
        · obtain ⟨s, hs⟩ : ∃ s, L[k - 1]? = some s := ⟨L[k - 1]'(by rw [HFI.out.len]; omega), by simp⟩
          have hsL := List.mem_of_getElem? hs
          have e1 := (HFI.out.at' _ s hs).1
          have esk : s.id = k := by omega
          have hc1 := har.cell k _ (cntL_get _ _ _ (by omega))
          rw [← esk, seen_one hr.once hsL, esk] at hc1
          have hpe : putErr L k = some (0, 8) := by unfold putErr; rw [if_neg (by omega), if_pos (hasId_iff.2 ⟨s, hsL, esk⟩)]
          have hpn := put_no qb lb mb 4 L k ag 1 wr hr (by omega) (by rw [hpe]; simp)
          rw [hpe] at hpn
          have HPN := Lib.hid hpn
          have clt := har.lt
          have u3 : IntKind.u64.wrap (k : Int) = (k : Int) := by simp [IntKind.wrap, IntKind.signed, IntKind.bits]; omega
          clear hr har hn hs hsL e1 esk hpe hpn
          go_wp2_with fail
          refine HPN.out.mono ?_
          rintro e w3 ⟨v, rfl, hv, hsy, hn3⟩
          have HSY := Lib.hid hsy
          have HR3 := Lib.hid (HR.out.new hn3)
          have HAR3 := Lib.hid (HAR.out.keep hn3 id)
          have HN3 := Lib.hid (HN.out.trans hn3)
          clear hsy hn3 HR HAR HN HPN hv hc1
          go_wp2_with fail
          refine (no_any waitL 0 8 _).mono ?_
          rintro e w4 ⟨f, rfl, hf, hn4⟩
          have HSM := Lib.hid (same_says v f waitL (some (0, 8)) w4 (HG.out.keep (HN3.out.trans hn4) id) (HSY.out.new hn4) hf)
          have HR4 := Lib.hid (HR3.out.new hn4)
          have HAR4 := Lib.hid (HAR3.out.keep hn4 id)
          have HN4 := Lib.hid (HN3.out.trans hn4)
          clear hf hn4 HR3 HAR3 HN3 HSY
          go_wp2_with fail
          refine HSM.out.mono ?_
          rintro e w5 ⟨rfl, hn5⟩
          have HR5 := Lib.hid (HR4.out.new hn5)
          have HAR5 := Lib.hid (HAR4.out.keep hn5 id)
          have HN5 := Lib.hid (HN4.out.trans hn5)
          clear hn5 HR4 HAR4 HN4 HSM
          go_wp2_with fail
          go_roundw
          case rel => exact ⟨k + 1, by omega, by omega, by go_num, HR5.out, HAR5.out, HN5.out⟩
          case measure => simp [intOf]; omega
        · obtain ⟨d, hd, hdX⟩ := within_nat dr X (by omega)
          obtain rfl : k = X + 1 := by omega
          obtain ⟨s, hs⟩ : ∃ s, L[d]? = some s := ⟨L[d]'(by rw [HFI.out.len]; omega), by simp⟩
          have hsL := List.mem_of_getElem? hs
          have e1 := (HFI.out.at' _ s hs).1
          have HD := Lib.hid hd
          have HE1 := Lib.hid e1
          have hdo := drop_ok qb lb mb 4 L s wr hr hsL
          rw [e1] at hdo
          have HDO := Lib.hid hdo
          have hwo : hasId (without L (d + 1)) (d + 1) = false := by rw [hasId_without]; simp
          have hwl := without_length hr.once (hasId_iff.2 ⟨s, hsL, e1⟩)
          rw [HFI.out.len] at hwl
          have HWO := Lib.hid hwo
          have HWL := Lib.hid (show (without L (d + 1)).length = X - 1 by omega)
          have HFW := Lib.hid (HFR.out.without (d + 1))
          clear hr har hn hs hsL e1 hdo hwo hwl hd
          rw [show (((X + 1 : Nat)) : Int) = (X : Int) + 1 by omega]
          go_wp2_with fail
          refine (within_any dr X _ (by omega) (by omega) (by omega) (by omega)).mono ?_
          rintro e w' ⟨rfl, rfl⟩
          rw [HD.out]
          go_wp2_with fail
          rw [show (1 : Int) + (d : Int) = ((d + 1 : Nat) : Int) by omega]
          refine HDO.out.mono ?_
          rintro e w3 ⟨rfl, hr3, hf3, _⟩
          have HR3 := Lib.hid hr3
          have HN3 := Lib.hid (New.fresh HN.out hf3 HFR.out)
          clear hr3 hf3 HR HAR HN HDO
          go_wp2_with fail
          refine (drop_none qb lb mb 4 _ (d + 1) w3 HR3.out HWO.out (by omega)).mono ?_
          rintro e w4 ⟨rfl, rfl⟩
          go_wp2_with fail
          refine (len_any qb lb mb 4 _ w3 HR3.out).mono ?_
          rw [HWL.out]
          rintro e w4 ⟨rfl, rfl⟩
          rw [show ((X - 1 : Nat) : Int) = (X : Int) - 1 by omega]
          have t1 : (((X : Int) - 1) != ((X : Int) - 1)) = false := by simp
          go_wp2_with fail
          refine (where_none qb lb mb 4 _ (d + 1) w3 HR3.out HWO.out (by omega)).mono ?_
          rintro e w4 ⟨rfl, hn4⟩
          have HR4 := Lib.hid (HR3.out.new hn4)
          have HN4 := Lib.hid (HN3.out.trans hn4)
          clear hn4 HR3 HN3
          go_wp2_with fail
          refine (put_ok qb lb mb 4 _ (d + 1) ag 1 w4 HR4.out (by omega) HWO.out (by omega) (by omega) (by omega) (by rw [HWL.out]; omega)).mono ?_
          rintro e w5 ⟨rfl, b, hb, _, hf5⟩
          have HN5 := Lib.hid (New.fresh HN4.out hf5 HFW.out)
          clear hf5 HN4 HR4
          go_wp2_with fail
          refine (awake_any _).mono ?_
          rintro e w6 ⟨rfl, hn6⟩
          have HN6 := Lib.hid (HN5.out.trans hn6)
          clear hn6
          go_wp2
          go_ret
          exact ⟨rfl, HN6.out⟩

end Go.Proofs.YteeckkkbmlkkiaaDoor
