/- Each address has the bucket that the document says: the statement's walk. -/
import Derived.Test.YtnnilcadmakamaaDoorWordD
namespace Go.Proofs.YtnnilcadmakamaaDoor
open Go.RowKit

set_option maxRecDepth 100000 in
set_option maxHeartbeats 1000000 in
theorem buckets_walk (a : Nat) (n : Int) (w : World) (hg : Laid w) (ha : a < 18446744073709551616) (hn : n ≤ 9223372036854775807) : Calls Tryd.prog 9 #[.int .u64 a, .int .i64 n] w fun e w' => e = .returned (.bool true) ∧ New w w' := by
  have HG := Lib.hid hg
  clear hg
  by_cases h : n < 1
  · go_enter Tryd.func9, Tryd.ntmps9
    go_wp2_with fail
    refine (bucket_zero a n _ h).mono ?_
    rintro e w' ⟨rfl, rfl⟩
    go_wp2_with fail
    refine (rbucket_zero a n _ h).mono ?_
    rintro e w' ⟨rfl, rfl⟩
    go_wp2_with fail
    refine (awake_any _ HG.out).mono ?_
    rintro e w2 ⟨rfl, hn2⟩
    have HN2 := Lib.hid hn2
    clear hn2
    go_wp2
    go_ret
    exact ⟨rfl, HN2.out⟩
  · obtain ⟨m, rfl⟩ : ∃ m : Nat, n = m := ⟨n.toNat, by omega⟩
    have h1 : 1 ≤ m := by omega
    have hb := fun w => bucket_any a m w h1 (by omega) ha
    have hr := fun w => rbucket_any a m w h1 (by omega) ha
    have hlt : bucketN a m < m := Nat.mod_lt _ (by omega)
    generalize bucketN a m = k at hb hr hlt
    have t1 : ((k : Int) == (k : Int)) = true := by simp
    have HB := Lib.hid hb
    have HR := Lib.hid hr
    clear hb hr h
    go_enter Tryd.func9, Tryd.ntmps9
    go_wp2_with fail
    refine (HB.out _).mono ?_
    rintro e w' ⟨rfl, rfl⟩
    go_wp2_with fail
    refine (HR.out _).mono ?_
    rintro e w' ⟨rfl, rfl⟩
    go_wp2_with fail
    refine (awake_any _ HG.out).mono ?_
    rintro e w2 ⟨rfl, hn2⟩
    have HN2 := Lib.hid hn2
    clear hn2
    go_wp2
    go_ret
    exact ⟨rfl, HN2.out⟩

end Go.Proofs.YtnnilcadmakamaaDoor
