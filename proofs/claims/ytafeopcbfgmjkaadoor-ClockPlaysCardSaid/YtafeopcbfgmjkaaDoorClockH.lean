/- The document's clock: putting in, dropping. -/
import Derived.Test.YtafeopcbfgmjkaaDoorClockF
import Derived.Deep.CutBlock
namespace Go.Proofs.YtafeopcbfgmjkaaDoor
open Go.RowKit

theorem woH_split {S : List Th} (h : Hs S) {q : Nat} {t : Th} (ht : S[q]? = some t) : woH S t.h = S.take q ++ S.drop (q + 1) := by
  induction S generalizing q with
  | nil => simp at ht
  | cons x r ih =>
    obtain ⟨h1, h2⟩ := List.pairwise_cons.1 h
    cases q with
    | zero =>
      obtain rfl : x = t := by simpa using ht
      simpa using woH_cons h
    | succ q =>
      have hr : r[q]? = some t := by simpa using ht
      have hne : x.h ≠ t.h := h1 t (List.mem_of_getElem? hr)
      unfold woH
      rw [List.filter_cons_of_pos (by simpa using hne)]
      have := ih h2 hr
      unfold woH at this
      rw [this]; simp
theorem ins_at {S : List Th} {t : Th} {k : Nat} (hk : k ≤ S.length) (h1 : ∀ (j : Nat) (y : Th), j < k → S[j]? = some y → y.d ≤ t.d) (h2 : ∀ y, S[k]? = some y → t.d < y.d) : ins t S = S.take k ++ [t] ++ S.drop k := by
  induction S generalizing k with
  | nil => simp [ins]
  | cons x r ih =>
    cases k with
    | zero =>
      unfold ins
      rw [if_pos (h2 x rfl)]; simp
    | succ k =>
      unfold ins
      rw [if_neg (by have := h1 0 x (by omega) rfl; omega), ih (by simpa using hk) (fun j y hj hy => h1 (j + 1) y (by omega) (by simpa using hy)) (fun y hy => h2 y (by simpa using hy))]
      simp

set_option maxRecDepth 100000 in
set_option maxHeartbeats 2000000 in
theorem hrdrop_ok (rb : Nat) (v : Value) (S : List Th) (t : Th) (last now : Nat) (w : World) (h : DocRep w rb v S last now) (hs : Hs S) (ht : t ∈ S) :
    Calls Tryd.prog 28 #[.pointer (some ⟨rb, 1, none⟩), .int .i64 t.h] w fun e w' => e = .returned (.tuple #[.int .u64 t.what, .bool true]) ∧ ∃ v', DocRep w' rb v' (woH S t.h) last now ∧ (∀ k, v'.ownBlock = some k → w.heap.size ≤ k) ∧ Fr (· = rb) w w' := by
  obtain ⟨h1, h2, h3⟩ := id h
  obtain ⟨ao, cap, rfl, _⟩ := owned_form h2
  have hcap := doc_cap h2
  have c1 := cell_of_block h1 1
  have l1 := lt_of_block h1
  have z1 := free_of_block h1 1
  rw [show (#[Value.int .u64 now, .slice ao S.length cap, .int .i64 last] : Array Value)[1]? = some (.slice ao S.length cap) from rfl] at c1
  obtain ⟨n, hn⟩ : ∃ n, S.length = n := ⟨_, rfl⟩
  obtain ⟨i0, hi, hz0, hz1, hz2⟩ := info_parts rthInfo
  obtain ⟨p, hp⟩ := List.mem_iff_getElem?.1 ht
  have hpn : p < n := by rw [← hn]; exact (List.getElem?_eq_some_iff.1 hp).1
  have HSP := Lib.hid (woH_split hs hp)
  rw [hn] at h1 c1 hcap h3
  obtain ⟨g, rfl, hg, _⟩ := doc_at h2 hp
  have HF := Lib.hid (fun (q : Nat) (y : Th) (e : S[q]? = some y) => doc_at h2 e)
  have HSQ := Lib.hid (fun (q : Nat) (y : Th) (e : S[q]? = some y) (hh : y.h = t.h) => hs.eq e hp hh)
  have hsrc := fun k => (Src.of_own h2).drop (k := k) (size := 3) h2.1
  have hsrt := fun k => (Src.of_own h2).take (k := k)
  rw [hn] at hsrc hsrt
  have HSR := Lib.hid hsrc
  have HST := Lib.hid hsrt
  have HLT := Lib.hid (fun k (hk : k ≤ n) => show ((S.take k).flatMap thC).length = k * 3 by rw [len_flatMap thC 3 thC_len, List.length_take, hn, Nat.min_eq_left hk])
  have HLD := Lib.hid (fun k (hk : k ≤ n) => show ((S.drop k).flatMap thC).length = (n - k) * 3 by rw [len_flatMap thC 3 thC_len, List.length_drop, hn])
  have H := Lib.hid h
  have HN := Lib.hid hn
  have H1 := Lib.hid h1
  have HP := Lib.hid hp
  clear h h1 h2 hn hsrc hsrt hs ht hp
  go_enter Tryd.func28, Tryd.ntmps28
  go_wp2_with fail
  go_loop [6] (fun i => ∃ q : Nat, q ≤ p ∧ i = .int .i64 q) (fun i => n - (intOf i).toNat)
  case atStart => exact ⟨0, by omega, rfl⟩
  case round =>
    obtain ⟨q, hq, rfl⟩ := hrel
    by_cases hlt : q < p
    · obtain ⟨y, hy⟩ : ∃ y, S[q]? = some y := ⟨S[q]'(by rw [HN.out]; omega), by simp⟩
      obtain ⟨g', e', _, x0, x1, x2⟩ := HF.out q y hy
      obtain rfl : g = g' := by simpa using e'
      have t1 : ((y.h : Int) == (t.h : Int)) = false := by
        rw [beq_eq_false_iff_ne]
        intro e
        have := HSQ.out q y hy (by omega)
        omega
      clear hy e'
      go_wp2_with fail
      go_round
      case rel => exact ⟨q + 1, by omega, by go_num⟩
      case measure => simp [intOf]; omega
    · obtain rfl : q = p := by omega
      obtain ⟨g', e', _, x0, x1, x2⟩ := HF.out q t HP.out
      obtain rfl : g = g' := by simpa using e'
      have t1 : ((t.h : Int) == (t.h : Int)) = true := by simp
      have q1 : (q : Int) + 1 ≤ (n : Int) := by omega
      have q2 : (q : Int) ≤ (cap : Int) := by omega
      have q3 : (n : Int) ≤ (cap : Int) := by omega
      have q4 : (q : Int) + 1 ≤ (cap : Int) := by omega
      have hown := World.ownsRow_nil w w.heap.size 76 3
      have HS1 := Lib.hid (show Src w (some ⟨g, 0, none⟩) q cap ((S.take q).flatMap thC) from by rw [← flat_take]; exact HST.out q (by omega) _)
      clear e'
      by_cases hc : cap = q + 1
      · have hs2 : Src w (some ⟨g, 0, none⟩) 0 0 ((S.drop (q + 1)).flatMap thC) := by
          rw [← flat_drop]
          refine (HSR.out (q + 1) (by omega) hcap).cast ?_ (by omega) (by omega) rfl
          first | rw [if_pos hc] | (rw [if_neg hc]; simp [Addr.add])
        have HS2 := Lib.hid hs2
        clear hs2
        obtain rfl : n = q + 1 := by omega
        subst hc
        go_wp2_with (first
          | (at_builtin; refine wpList_append_src rfl (.tmp 36) (.tmp 42) 42 rfl w.heap.size 76 i0 _ 3 24 Tryd.underlying42 hi hz0 hz1 hz2 rfl (by decide) _ _ _ rfl hown (some ⟨g, 0, none⟩) q _ ((S.take q).flatMap thC) rfl (HLT.out q (by omega)) HS1.out (thC_one _) (by unfold maxLen; omega) (by omega) (by simp) ?_; intro v1 w1 hown1 hgrow1; rw [List.nil_append, Nat.zero_add] at hown1; have f1 : Fr (fun k => w.heap.size ≤ k) w w1 := (Fr.refl _ w).grown hgrow1 (fun k hk _ => by cases hk); have b1 := (f1.block rb l1 (by omega)).trans H1.out; have l2 := lt_of_block b1; have d1 : w1.cell? ⟨rb, 1, none⟩ = some _ := cell_of_block b1 1; have y1 := free_of_block b1 1; obtain ⟨ao1, cap1, rfl, _⟩ := owned_form hown1; have HO1 := Lib.hid hown1; have F1 := Lib.hid f1; have B1 := Lib.hid b1; clear hgrow1 hown1 f1 b1 hown)
          | (at_builtin; refine wpList_append_src rfl (.tmp 45) (.tmp 52) 42 rfl w.heap.size 76 i0 _ 3 24 Tryd.underlying42 hi hz0 hz1 hz2 rfl (by decide) _ _ _ rfl HO1.out (some ⟨g, 0, none⟩) 0 0 ((S.drop (q + 1)).flatMap thC) rfl (by have := HLD.out (q + 1) (by omega); omega) (HS2.out.keep F1.out (fun ad e hk => by cases e; exact absurd hk (by show ¬ w.heap.size ≤ g; omega))) (thC_one _) (by unfold maxLen; omega) (by omega) F1.out.size ?_; intro v2 w2 hown2 hgrow2; rw [← List.flatMap_append, ← HSP.out] at hown2; have f2 : Fr (fun k => w.heap.size ≤ k) w1 w2 := (Fr.refl _ w1).grown hgrow2 (fun k hk _ => (HO1.out.lt k hk).1); have b2 := (f2.block rb l2 (by omega)).trans B1.out; have l3 := lt_of_block b2; have d2 : w2.cell? ⟨rb, 1, none⟩ = some _ := cell_of_block b2 1; have y2 := free_of_block b2 1; obtain ⟨ao2, cap2, rfl, _⟩ := owned_form hown2; have HO2 := Lib.hid hown2; have F2 := Lib.hid f2; have B2 := Lib.hid b2; clear hgrow2 hown2 f2 b2 d1 y1 l2))
        go_ret2
        have hlen : (woH S t.h).length = q + 0 := by rw [HSP.out, List.length_append, List.length_take, List.length_drop, HN.out]; omega
        have hend := doc_end H.out ((F1.out.trans F2.out).mono (fun k hk e => absurd e (by omega))) B2.out HO2.out hlen h3.2.1 (by rw [hlen]; omega)
        exact ⟨rfl, _, hend⟩
      · have hs2 : Src w (some ⟨g, (q + 1) * 3, none⟩) (n - (q + 1)) (cap - (q + 1)) ((S.drop (q + 1)).flatMap thC) := by
          rw [← flat_drop]
          refine (HSR.out (q + 1) (by omega) hcap).cast ?_ (by omega) (by omega) rfl
          first | rw [if_pos hc] | (rw [if_neg hc]; simp [Addr.add])
        have HS2 := Lib.hid hs2
        clear hs2
        have q5 : ¬ ((cap : Int) = (q : Int) + 1) := by omega
        go_wp2_with (first
          | (at_builtin; refine wpList_append_src rfl (.tmp 36) (.tmp 42) 42 rfl w.heap.size 76 i0 _ 3 24 Tryd.underlying42 hi hz0 hz1 hz2 rfl (by decide) _ _ _ rfl hown (some ⟨g, 0, none⟩) q _ ((S.take q).flatMap thC) rfl (HLT.out q (by omega)) HS1.out (thC_one _) (by unfold maxLen; omega) (by omega) (by simp) ?_; intro v1 w1 hown1 hgrow1; rw [List.nil_append, Nat.zero_add] at hown1; have f1 : Fr (fun k => w.heap.size ≤ k) w w1 := (Fr.refl _ w).grown hgrow1 (fun k hk _ => by cases hk); have b1 := (f1.block rb l1 (by omega)).trans H1.out; have l2 := lt_of_block b1; have d1 : w1.cell? ⟨rb, 1, none⟩ = some _ := cell_of_block b1 1; have y1 := free_of_block b1 1; obtain ⟨ao1, cap1, rfl, _⟩ := owned_form hown1; have HO1 := Lib.hid hown1; have F1 := Lib.hid f1; have B1 := Lib.hid b1; clear hgrow1 hown1 f1 b1 hown)
          | (at_builtin; refine wpList_append_src rfl (.tmp 45) (.tmp 52) 42 rfl w.heap.size 76 i0 _ 3 24 Tryd.underlying42 hi hz0 hz1 hz2 rfl (by decide) _ _ _ rfl HO1.out (some ⟨g, (q + 1) * 3, none⟩) (n - (q + 1)) (cap - (q + 1)) ((S.drop (q + 1)).flatMap thC) rfl (by have := HLD.out (q + 1) (by omega); omega) (HS2.out.keep F1.out (fun ad e hk => by cases e; exact absurd hk (by show ¬ w.heap.size ≤ g; omega))) (thC_one _) (by unfold maxLen; omega) (by omega) F1.out.size ?_; intro v2 w2 hown2 hgrow2; rw [← List.flatMap_append, ← HSP.out] at hown2; have f2 : Fr (fun k => w.heap.size ≤ k) w1 w2 := (Fr.refl _ w1).grown hgrow2 (fun k hk _ => (HO1.out.lt k hk).1); have b2 := (f2.block rb l2 (by omega)).trans B1.out; have l3 := lt_of_block b2; have d2 : w2.cell? ⟨rb, 1, none⟩ = some _ := cell_of_block b2 1; have y2 := free_of_block b2 1; obtain ⟨ao2, cap2, rfl, _⟩ := owned_form hown2; have HO2 := Lib.hid hown2; have F2 := Lib.hid f2; have B2 := Lib.hid b2; clear hgrow2 hown2 f2 b2 d1 y1 l2))
        go_ret2
        have hlen : (woH S t.h).length = q + (n - (q + 1)) := by rw [HSP.out, List.length_append, List.length_take, List.length_drop, HN.out]; omega
        have hend := doc_end H.out ((F1.out.trans F2.out).mono (fun k hk e => absurd e (by omega))) B2.out HO2.out hlen h3.2.1 (by rw [hlen]; omega)
        exact ⟨rfl, _, hend⟩

theorem map_add (g n : Nat) : (some (⟨g, 0, none⟩ : Addr)).map (·.add n) = some ⟨g, n, none⟩ := by
  by_cases h : n = 0 <;> simp [Addr.add, h]
theorem own_some {w : World} {base n c k size : Nat} {e : TypeId} {A : Option Addr} {cs : List Value} (h : w.ownsRow base e size (.slice A n c) n cs) (hk : k ≤ n) (hc : c ≠ k) : ∃ g, A = some ⟨g, 0, none⟩ ∧ g < w.heap.size := by
  rcases h.2 with ⟨h1, rfl⟩ | ⟨g, cap, cur, hv, _, hh, r⟩
  · obtain ⟨_, rfl⟩ : A = none ∧ c = 0 := by simpa using h1
    omega
  · obtain ⟨rfl, _⟩ : A = some ⟨g, 0, none⟩ ∧ c = cap := by simpa using hv
    exact ⟨g, rfl, lt_of_block hh⟩
theorem int_succ (n : Nat) : (n : Int) + 1 = ((n + 1 : Nat) : Int) := by omega

set_option maxRecDepth 100000 in
set_option maxHeartbeats 4000000 in
theorem hrput_any (rb : Nat) (v : Value) (S : List Th) (last now d x : Nat) (w : World) (h : DocRep w rb v S last now) (hl : last < 10000) (hsl : S.length < 10000) :
    Calls Tryd.prog 30 #[.pointer (some ⟨rb, 1, none⟩), .int .u64 d, .int .u64 x] w fun e w' => e = .returned (.int .i64 ((last + 1 : Nat) : Int)) ∧ ∃ v', DocRep w' rb v' (ins ⟨d, x, last + 1⟩ S) (last + 1) now ∧ (∀ k, v'.ownBlock = some k → w.heap.size ≤ k) ∧ Fr (· = rb) w w' := by
  obtain ⟨h1, h2, h3⟩ := id h
  obtain ⟨ao, cap, rfl, _⟩ := owned_form h2
  have hcap := doc_cap h2
  have c2 := cell_of_block h1 2
  have l1 := lt_of_block h1
  have z2 := free_of_block h1 2
  rw [show (#[Value.int .u64 now, .slice ao S.length cap, .int .i64 last] : Array Value)[2]? = some (.int .i64 last) from rfl] at c2
  obtain ⟨n, hn⟩ : ∃ n, S.length = n := ⟨_, rfl⟩
  obtain ⟨i0, hi, hz0, hz1, hz2⟩ := info_parts rthInfo
  rw [hn] at h1 hcap h3 hsl
  have HLT := Lib.hid (fun k (hk : k ≤ n) => show ((S.take k).flatMap thC).length = k * 3 by rw [len_flatMap thC 3 thC_len, List.length_take, hn, Nat.min_eq_left hk])
  have HLD := Lib.hid (fun k (hk : k ≤ n) => show ((S.drop k).flatMap thC).length = (n - k) * 3 by rw [len_flatMap thC 3 thC_len, List.length_drop, hn])
  have H := Lib.hid h
  have HN := Lib.hid hn
  have H1 := Lib.hid h1
  have H2 := Lib.hid h2
  clear h h1 h2 hn
  go_enter Tryd.func30, Tryd.ntmps30
  go_upto_region 2 with fail
  rw [int_succ last]
  obtain ⟨w0, hw0⟩ : ∃ w0, w.setCell ⟨rb, 2, none⟩ (.int .i64 ((last + 1 : Nat) : Int)) = w0 := ⟨_, rfl⟩
  rw [hw0]
  have hb0 : w0.heap[rb]? = some (.cells #[.int .u64 now, .slice ao n cap, .int .i64 ((last + 1 : Nat) : Int)] 46 (0, 0)) := by rw [← hw0]; exact block_setCell H1.out _
  have f0 : Fr (· = rb) w w0 := by rw [← hw0]; exact (Fr.refl (· = rb) w).setCell (fun _ => rfl) _
  have hne := own_ne H2.out H1.out (by decide)
  have h20 := own_kept H2.out f0 (fun k hk e => hne k hk e)
  have HF := Lib.hid (fun (q : Nat) (y : Th) (e : S[q]? = some y) => doc_at h20 e)
  have hsrc := fun k => (Src.of_own h20).drop (k := k) (size := 3) h20.1
  have hsrt := fun k => (Src.of_own h20).take (k := k)
  rw [HN.out] at hsrc hsrt
  have HSR := Lib.hid hsrc
  have HST := Lib.hid hsrt
  have HAO := Lib.hid (show ∀ ad, ao = some ad → ad.block < w0.heap.size from fun ad e => by
    subst e
    exact (h20.lt _ rfl).2)
  have HB0 := Lib.hid hb0
  have F0 := Lib.hid f0
  have l0 := lt_of_block hb0
  have c1 : w0.cell? ⟨rb, 1, none⟩ = some (.slice ao n cap) := cell_of_block hb0 1
  have c2 : w0.cell? ⟨rb, 2, none⟩ = some (.int .i64 ((last + 1 : Nat) : Int)) := cell_of_block hb0 2
  have HOS := Lib.hid (fun k => own_some h20 (k := k))
  have z1 := free_of_block hb0 1
  clear hw0 hb0 f0 hne h20 hsrc hsrt z2
  go_upto_block 0 with fail
  go_cut [7] (fun s wx => ∃ k : Nat, s = .int .i64 k ∧ k ≤ n ∧ (∀ (j : Nat) (y : Th), j < k → S[j]? = some y → y.d ≤ d) ∧ (∀ y, S[k]? = some y → d < y.d) ∧ w0 = wx)
  case first => as_aux_lemma =>
    go_wp2_with fail
    go_loop [7] (fun s => ∃ k : Nat, s = .int .i64 k ∧ k ≤ n ∧ (∀ (j : Nat) (y : Th), j < k → S[j]? = some y → y.d ≤ d)) (fun s => n - (intOf s).toNat)
    case atStart => exact ⟨0, rfl, by omega, fun j y hj => by omega⟩
    case round =>
      obtain ⟨k, rfl, hk, hno⟩ := hrel
      have HNO := Lib.hid hno
      clear hno
      by_cases hlt : k < n
      · obtain ⟨y, hy⟩ : ∃ y, S[k]? = some y := ⟨S[k]'(by rw [HN.out]; omega), by simp⟩
        obtain ⟨g, rfl, hg, x0, x1, x2⟩ := HF.out k y hy
        have HY := Lib.hid hy
        clear hy x1 x2
        by_cases hd : y.d ≤ d
        · have t1 : decide (y.d ≤ d) = true := by simpa using hd
          have t2 : (y.d : Int) ≤ (d : Int) := by omega
          go_wp2_with fail
          go_round
          case rel => exact ⟨k + 1, by go_num, by omega, fun j z hj hz => by
            by_cases e : j = k
            · subst e; rw [HY.out] at hz; rw [← Option.some.inj hz]; exact hd
            · exact HNO.out j z (by omega) hz⟩
          case measure => simp [intOf]; omega
        · have t1 : decide (y.d ≤ d) = false := by simp; omega
          have t2 : ¬ (y.d : Int) ≤ (d : Int) := by omega
          go_wp2_with fail
          go_meet
          case rel => exact ⟨k, rfl, hk, HNO.out, fun z hz => by rw [HY.out] at hz; rw [← Option.some.inj hz]; omega, rfl⟩
      · go_wp2_with fail
        go_meet
        case rel => exact ⟨k, rfl, hk, HNO.out, fun z hz => by have := (List.getElem?_eq_some_iff.1 hz).1; have := HN.out; omega, rfl⟩
  case rest => as_aux_lemma =>
  obtain ⟨k, rfl, hk, ha, hb, rfl⟩ := hcut
  have HINS := Lib.hid (ins_at (t := ⟨d, x, last + 1⟩) (by rw [HN.out]; exact hk) ha hb)
  clear ha hb
  have hown := World.ownsRow_nil w0 w0.heap.size 76 3
  have hs1 : Src w0 ao k cap ((S.take k).flatMap thC) := by rw [← flat_take]; exact HST.out k hk _
  have hs2 := HSR.out k hk hcap
  rw [flat_drop] at hs2
  have q2 : (k : Int) ≤ (cap : Int) := by omega
  have q3 : (n : Int) ≤ (cap : Int) := by omega
  have hlen := HLT.out k hk
  have hlen2 := HLD.out k hk
  by_cases hc : cap = k
  · rw [if_pos hc] at hs2
    obtain rfl : n = k := by omega
    obtain rfl : n = cap := hc.symm
    have HS1 := Lib.hid hs1
    have HS2 := Lib.hid (show Src w0 ao 0 0 ((S.drop n).flatMap thC) from hs2.cast (by first | rfl | exact map_add _ _) (by omega) (by omega) rfl)
    have HLEN := Lib.hid hlen
    have HLEN2 := Lib.hid (show ((S.drop n).flatMap thC).length = 0 * 3 from by omega)
    clear hs1 hs2 hlen hlen2
    go_wp2_with (first
      | (at_builtin; refine wpList_append_src rfl (.tmp 37) (.tmp 43) 42 rfl w0.heap.size 76 i0 _ 3 24 Tryd.underlying42 hi hz0 hz1 hz2 rfl (by decide) _ _ _ rfl hown ao n n ((S.take n).flatMap thC) rfl HLEN.out HS1.out (thC_one _) (by unfold maxLen; omega) (by omega) (Nat.le_refl _) ?_; intro v1 w1 hown1 hgrow1; rw [List.nil_append, Nat.zero_add] at hown1; have f1 : Fr (fun k => w0.heap.size ≤ k) w0 w1 := (Fr.refl _ w0).grown hgrow1 (fun k hk _ => by cases hk); have b1 := (f1.block rb l0 (by omega)).trans HB0.out; have l2 := lt_of_block b1; have d2 : w1.cell? ⟨rb, 2, none⟩ = some (.int .i64 ((last + 1 : Nat) : Int)) := cell_of_block b1 2; obtain ⟨ao1, cap1, rfl, _⟩ := owned_form hown1; have HO1 := Lib.hid hown1; have F1 := Lib.hid f1; have B1 := Lib.hid b1; clear hgrow1 hown1 f1 b1 hown)
      | (at_builtin; refine wpList_append_src rfl (.tmp 45) (.tmp 53) 42 rfl w0.heap.size 76 i0 _ 3 24 Tryd.underlying42 hi hz0 hz1 hz2 rfl (by decide) _ _ _ rfl (HO1.out.alloc _) (some ⟨w1.heap.size, 0, none⟩) 1 1 (thC ⟨d, x, last + 1⟩) rfl rfl (.inr ⟨_, rfl, by simp, Arr.add (Arr.new _ _ _)⟩) (by simp [thC, Value.oneCell']) (by unfold maxLen; omega) (by omega) (by have := F1.out.size; simp; omega) ?_; intro v2 w2 hown2 hgrow2; have f2 : Fr (fun k => w0.heap.size ≤ k) w1 w2 := ((Fr.refl _ w1).alloc _).grown hgrow2 (fun k hk _ => (HO1.out.lt k hk).1); have b2 := (f2.block rb l2 (by omega)).trans B1.out; have l3 := lt_of_block b2; have e1 : w2.cell? ⟨rb, 1, none⟩ = some (.slice ao n n) := cell_of_block b2 1; obtain ⟨ao2, cap2, rfl, _⟩ := owned_form hown2; have HO2 := Lib.hid hown2; have F2 := Lib.hid f2; have B2 := Lib.hid b2; clear hgrow2 hown2 f2 b2 d2 l2)
      | (at_builtin; refine wpList_append_src rfl (.tmp 56) (.tmp 62) 42 rfl w0.heap.size 76 i0 _ 3 24 Tryd.underlying42 hi hz0 hz1 hz2 rfl (by decide) _ _ _ rfl HO2.out ao 0 0 ((S.drop n).flatMap thC) rfl HLEN2.out (HS2.out.keep (F1.out.trans F2.out) (fun ad e hk => by first | (cases e; exact absurd hk (by show ¬ w0.heap.size ≤ g; omega)) | (have := HAO.out ad e; omega))) (thC_one _) (by unfold maxLen; omega) (by omega) (by have := F1.out.size; have := F2.out.size; omega) ?_; intro v3 w3 hown3 hgrow3; have f3 : Fr (fun k => w0.heap.size ≤ k) w2 w3 := (Fr.refl _ w2).grown hgrow3 (fun k hk _ => (HO2.out.lt k hk).1); have b3 := (f3.block rb l3 (by omega)).trans B2.out; have l4 := lt_of_block b3; have g1 : w3.cell? ⟨rb, 1, none⟩ = some (.slice ao n n) := cell_of_block b3 1; have g2 : w3.cell? ⟨rb, 2, none⟩ = some (.int .i64 ((last + 1 : Nat) : Int)) := cell_of_block b3 2; have y3 := free_of_block b3 1; obtain ⟨ao3, cap3, rfl, _⟩ := owned_form hown3; have HO3 := Lib.hid hown3; have F3 := Lib.hid f3; have B3 := Lib.hid b3; clear hgrow3 hown3 f3 b3 e1 l3))
    go_ret
    have hcs : (S.take n).flatMap thC ++ thC ⟨d, x, last + 1⟩ ++ (S.drop n).flatMap thC = (ins ⟨d, x, last + 1⟩ S).flatMap thC := by rw [HINS.out, List.flatMap_append, List.flatMap_append]; simp
    have ho := HO3.out
    rw [hcs] at ho
    have hend := doc_end H.out (F0.out.trans (((F1.out.trans F2.out).trans F3.out).mono (fun k hk e => absurd e (by have := F0.out.size; omega)))) B3.out (ho.mono F0.out.size) (by have := ins_len ⟨d, x, last + 1⟩ S; have := HN.out; omega) (by omega) (by have := ins_len ⟨d, x, last + 1⟩ S; have := HN.out; omega)
    exact ⟨rfl, _, hend⟩
  · rw [if_neg hc] at hs2
    obtain ⟨g, rfl, hg⟩ := HOS.out k (by rw [HN.out]; exact hk) hc
    have q5 : ¬ ((cap : Int) = (k : Int)) := by omega
    have HS1 := Lib.hid hs1
    have HS2 := Lib.hid (show Src w0 (some ⟨g, k * 3, none⟩) (n - k) (cap - k) ((S.drop k).flatMap thC) from hs2.cast (by first | rfl | exact map_add _ _) (by omega) (by omega) rfl)
    have HLEN := Lib.hid hlen
    have HLEN2 := Lib.hid (show ((S.drop k).flatMap thC).length = (n - k) * 3 from by omega)
    clear hs1 hs2 hlen hlen2
    go_wp2_with (first
      | (at_builtin; refine wpList_append_src rfl (.tmp 37) (.tmp 43) 42 rfl w0.heap.size 76 i0 _ 3 24 Tryd.underlying42 hi hz0 hz1 hz2 rfl (by decide) _ _ _ rfl hown (some ⟨g, 0, none⟩) k cap ((S.take k).flatMap thC) rfl HLEN.out HS1.out (thC_one _) (by unfold maxLen; omega) (by omega) (Nat.le_refl _) ?_; intro v1 w1 hown1 hgrow1; rw [List.nil_append, Nat.zero_add] at hown1; have f1 : Fr (fun k => w0.heap.size ≤ k) w0 w1 := (Fr.refl _ w0).grown hgrow1 (fun k hk _ => by cases hk); have b1 := (f1.block rb l0 (by omega)).trans HB0.out; have l2 := lt_of_block b1; have d2 : w1.cell? ⟨rb, 2, none⟩ = some (.int .i64 ((last + 1 : Nat) : Int)) := cell_of_block b1 2; obtain ⟨ao1, cap1, rfl, _⟩ := owned_form hown1; have HO1 := Lib.hid hown1; have F1 := Lib.hid f1; have B1 := Lib.hid b1; clear hgrow1 hown1 f1 b1 hown)
      | (at_builtin; refine wpList_append_src rfl (.tmp 45) (.tmp 53) 42 rfl w0.heap.size 76 i0 _ 3 24 Tryd.underlying42 hi hz0 hz1 hz2 rfl (by decide) _ _ _ rfl (HO1.out.alloc _) (some ⟨w1.heap.size, 0, none⟩) 1 1 (thC ⟨d, x, last + 1⟩) rfl rfl (.inr ⟨_, rfl, by simp, Arr.add (Arr.new _ _ _)⟩) (by simp [thC, Value.oneCell']) (by unfold maxLen; omega) (by omega) (by have := F1.out.size; simp; omega) ?_; intro v2 w2 hown2 hgrow2; have f2 : Fr (fun k => w0.heap.size ≤ k) w1 w2 := ((Fr.refl _ w1).alloc _).grown hgrow2 (fun k hk _ => (HO1.out.lt k hk).1); have b2 := (f2.block rb l2 (by omega)).trans B1.out; have l3 := lt_of_block b2; have e1 : w2.cell? ⟨rb, 1, none⟩ = some (.slice (some ⟨g, 0, none⟩) n cap) := cell_of_block b2 1; obtain ⟨ao2, cap2, rfl, _⟩ := owned_form hown2; have HO2 := Lib.hid hown2; have F2 := Lib.hid f2; have B2 := Lib.hid b2; clear hgrow2 hown2 f2 b2 d2 l2)
      | (at_builtin; refine wpList_append_src rfl (.tmp 56) (.tmp 62) 42 rfl w0.heap.size 76 i0 _ 3 24 Tryd.underlying42 hi hz0 hz1 hz2 rfl (by decide) _ _ _ rfl HO2.out (some ⟨g, k * 3, none⟩) (n - k) (cap - k) ((S.drop k).flatMap thC) rfl HLEN2.out (HS2.out.keep (F1.out.trans F2.out) (fun ad e hk => by first | (cases e; exact absurd hk (by show ¬ w0.heap.size ≤ g; omega)) | (have := HAO.out ad e; omega))) (thC_one _) (by unfold maxLen; omega) (by omega) (by have := F1.out.size; have := F2.out.size; omega) ?_; intro v3 w3 hown3 hgrow3; have f3 : Fr (fun k => w0.heap.size ≤ k) w2 w3 := (Fr.refl _ w2).grown hgrow3 (fun k hk _ => (HO2.out.lt k hk).1); have b3 := (f3.block rb l3 (by omega)).trans B2.out; have l4 := lt_of_block b3; have g1 : w3.cell? ⟨rb, 1, none⟩ = some (.slice (some ⟨g, 0, none⟩) n cap) := cell_of_block b3 1; have g2 : w3.cell? ⟨rb, 2, none⟩ = some (.int .i64 ((last + 1 : Nat) : Int)) := cell_of_block b3 2; have y3 := free_of_block b3 1; obtain ⟨ao3, cap3, rfl, _⟩ := owned_form hown3; have HO3 := Lib.hid hown3; have F3 := Lib.hid f3; have B3 := Lib.hid b3; clear hgrow3 hown3 f3 b3 e1 l3))
    go_ret
    have hcs : (S.take k).flatMap thC ++ thC ⟨d, x, last + 1⟩ ++ (S.drop k).flatMap thC = (ins ⟨d, x, last + 1⟩ S).flatMap thC := by rw [HINS.out, List.flatMap_append, List.flatMap_append]; simp
    have ho := HO3.out
    rw [hcs] at ho
    have hend := doc_end H.out (F0.out.trans (((F1.out.trans F2.out).trans F3.out).mono (fun k hk e => absurd e (by have := F0.out.size; omega)))) B3.out (ho.mono F0.out.size) (by have := ins_len ⟨d, x, last + 1⟩ S; have := HN.out; omega) (by omega) (by have := ins_len ⟨d, x, last + 1⟩ S; have := HN.out; omega)
    exact ⟨rfl, _, hend⟩

end Go.Proofs.YtafeopcbfgmjkaaDoor
