/- Calls upon a table whose rows are known; the document's example. -/
import Derived.Test.YtpfkfajgbaakoaaDoorTabG
namespace Go.Proofs.YtpfkfajgbaakoaaDoor
open Go.RowKit

/-- The table in a world that has come from w0, its blocks made behind it. -/
structure Tb (w0 w : World) (b rb : Nat) (l : List TR) : Prop where
  p : PRep w b rb l
  fr : w0.heap.size ≤ rb
  n : New w0 w
section
variable {w0 w w' : World} {b rb : Nat} {l l' : List TR} {h : Nat}
theorem Tb.new (t : Tb w0 w b rb l) (f : New w w') : Tb w0 w' b rb l := ⟨t.p.new f, t.fr, t.n.trans f⟩
theorem Tb.step {P : Prop} (t : Tb w0 w b rb l) (hr : PRep w' b rb l') (f : Fr (fun k => P ∧ k = rb) w w') : Tb w0 w' b rb l' := ⟨hr, t.fr, t.n.then f (fun i hi e => by have := t.fr; have := e.2; omega)⟩
theorem Tb.on {E : TR → Option (Int × Int)} {R : TR → TR} {v : Value} (t : Tb w0 w b rb l) (e : EndP w b rb l h E R v w') (hL : onL l h R = l') : Tb w0 w' b rb l' := by
  subst hL
  exact t.step e.2.1 e.2.2
theorem Tb.nil {E : TR → Option (Int × Int)} {R : TR → TR} {v : Value} (e : EndP w b rb l h E R v w') (hE : onE l h E = none) : v = .nilIface := by
  have := e.1; rwa [hE] at this
theorem Tb.err {E : TR → Option (Int × Int)} {R : TR → TR} {v : Value} {k : Int} (e : EndP w b rb l h E R v w') (hE : onE l h E = some (0, k)) : Says w' tabL v (some (0, k)) := by
  have := e.1; rwa [hE] at this
theorem Tb.born (t : Tb w0 w b rb l) (ht : ∀ r ∈ l, r.times < 999999) {home i : Nat} (hi : bornI l = i) (hE : bornE l = none) (hL : bornL l home = l') :
    Calls Tryd.prog 14 #[.pointer (some ⟨b, 0, none⟩), .int .u64 home] w fun e w' => e = .returned (.tuple #[.int .u64 i, .nilIface]) ∧ Tb w0 w' b rb l' := by
  refine (pborn_any b rb l home w t.p ht).mono ?_
  rintro e w' ⟨v, rfl, hs, hr, hf⟩
  rw [hE] at hs
  obtain rfl : v = .nilIface := hs
  subst hi; subst hL
  exact ⟨rfl, t.step hr hf⟩
theorem Tb.full (t : Tb w0 w b rb l) (ht : ∀ r ∈ l, r.times < 999999) {home : Nat} (hF : freeAt l = none) :
    Calls Tryd.prog 14 #[.pointer (some ⟨b, 0, none⟩), .int .u64 home] w fun e w' => ∃ v, e = .returned (.tuple #[.int .u64 0, v]) ∧ Says w' tabL v (some (0, 3)) ∧ Tb w0 w' b rb l := by
  refine (pborn_any b rb l home w t.p ht).mono ?_
  rintro e w' ⟨v, rfl, hs, hr, hf⟩
  unfold bornE at hs hf
  unfold bornL at hr
  unfold bornI
  rw [hF] at hs hf hr ⊢
  exact ⟨v, rfl, hs, t.step hr hf⟩
theorem tb_new (n : Nat) (w : World) (h1 : 1 ≤ n) (h2 : n ≤ 64) :
    Calls Tryd.prog 9 #[.int .i64 n] w fun e w' => ∃ b rb, e = .returned (.tuple #[.pointer (some ⟨b, 0, none⟩), .nilIface]) ∧ Tb w w' b rb (List.replicate n noneR) := by
  refine (new_any n w h1 h2).mono ?_
  rintro e w' ⟨b, rb, rfl, _, h3, hr, hn⟩
  exact ⟨b, rb, rfl, hr, h3, hn⟩
end
theorem laid_tb {w0 w : World} {b rb : Nat} {l : List TR} (hg : Laid w0) (t : Tb w0 w b rb l) : Laid w := hg.keep t.n id
/-- The rows of the example. -/
def x0 : List TR := [noneR, noneR]
def x1 : List TR := [⟨1, true, false, 64, 1, 0, 0, 0, false, false⟩, noneR]
def x2 : List TR := [⟨1, true, false, 64, 1, 0, 0, 0, false, false⟩, ⟨1, true, false, 65, 1, 0, 0, 0, false, false⟩]
def x3 : List TR := [⟨1, true, false, 64, 4, 0, 7, 0, false, true⟩, ⟨1, true, false, 65, 1, 0, 0, 0, false, false⟩]
def x4 : List TR := [⟨1, true, false, 64, 4, 0, 7, 0, false, false⟩, ⟨1, true, false, 65, 1, 0, 0, 0, false, false⟩]
def x5 : List TR := [⟨1, false, false, 0, 0, 0, 0, 0, false, false⟩, ⟨1, true, false, 65, 1, 0, 0, 0, false, false⟩]
def x6 : List TR := [⟨2, true, false, 128, 1, 3, 0, 0, false, false⟩, ⟨1, true, false, 65, 1, 0, 0, 0, false, false⟩]
theorem small0 : ∀ r ∈ x0, r.times < 999999 := by simp [x0, noneR]
theorem small1 : ∀ r ∈ x1, r.times < 999999 := by simp [x1, noneR]
theorem small2 : ∀ r ∈ x2, r.times < 999999 := by simp [x2]
theorem small5 : ∀ r ∈ x5, r.times < 999999 := by simp [x5]

set_option maxRecDepth 100000 in
set_option maxHeartbeats 2000000 in
theorem awake_any (w : World) (hg : Laid w) : Calls Tryd.prog 12 #[] w fun e w' => e = .returned (.bool true) ∧ New w w' := by
  have HG := Lib.hid hg
  clear hg
  go_enter Tryd.func12, Tryd.ntmps12
  go_wp2_with fail
  refine (tb_new 2 w (by omega) (by omega)).mono ?_
  rintro e w1 ⟨b, rb, rfl, t1⟩
  have T1 := Lib.hid (show Tb w w1 b rb x0 from t1)
  clear t1
  go_wp2_with fail
  refine (T1.out.born small0 (i := 64) (l' := x1) (home := 0) (by kernel_rfl) (by kernel_rfl) (by kernel_rfl)).mono ?_
  rintro e w2 ⟨rfl, t2⟩
  have T2 := Lib.hid t2
  clear t2 T1
  go_wp2_with fail
  refine (T2.out.born small1 (i := 65) (l' := x2) (home := 0) (by kernel_rfl) (by kernel_rfl) (by kernel_rfl)).mono ?_
  rintro e w3 ⟨rfl, t3⟩
  have T3 := Lib.hid t3
  clear t3 T2
  go_wp2_with fail
  refine (T3.out.full small2 (home := 0) (by kernel_rfl)).mono ?_
  rintro e w4 ⟨v, rfl, hs, t4⟩
  have HS := Lib.hid hs
  have T4 := Lib.hid t4
  clear t4 T3 hs
  go_wp2_with fail
  refine (no_says tabL 0 3 w4).mono ?_
  rintro e w5 ⟨f, rfl, hf, hn⟩
  have HSM := Lib.hid (same_says v f tabL _ w5 (laid_tb HG.out (T4.out.new hn)) (HS.out.new hn) hf)
  have T5 := Lib.hid (T4.out.new hn)
  clear T4 HS hf hn
  go_wp2_with fail
  refine HSM.out.mono ?_
  rintro e w6 ⟨rfl, hn⟩
  have T6 := Lib.hid (T5.out.new hn)
  clear hn T5 HSM
  go_wp2_with fail
  refine (pend_any b rb x2 64 7 w6 T6.out.p (by omega)).mono ?_
  rintro e w7 ⟨v7, rfl, h7⟩
  obtain rfl := Tb.nil h7 (by kernel_rfl)
  have T7 := Lib.hid (T6.out.on (l' := x3) h7 (by kernel_rfl))
  clear h7 T6
  go_wp2_with fail
  refine (pleave_any b rb x3 64 w7 T7.out.p (by omega)).mono ?_
  rintro e w8 ⟨v8, rfl, h8⟩
  obtain rfl := Tb.nil h8 (by kernel_rfl)
  have T8 := Lib.hid (T7.out.on (l' := x4) h8 (by kernel_rfl))
  clear h8 T7
  go_wp2_with fail
  refine (preap_any b rb x4 64 w8 T8.out.p (by omega)).mono ?_
  rintro e w9 ⟨v9, rfl, h9⟩
  obtain rfl := Tb.nil h9 (by kernel_rfl)
  have T9 := Lib.hid (T8.out.on (l' := x5) h9 (by kernel_rfl))
  rw [show reapV x4 64 = (7, 0, true) by kernel_rfl]
  clear h9 T8
  go_wp2_with fail
  refine (T9.out.born small5 (i := 128) (l' := x6) (home := 3) (by kernel_rfl) (by kernel_rfl) (by kernel_rfl)).mono ?_
  rintro e w10 ⟨rfl, t10⟩
  have T10 := Lib.hid t10
  clear t10 T9
  go_wp2
  go_ret
  exact ⟨rfl, T10.out.n⟩

end Go.Proofs.YtpfkfajgbaakoaaDoor
