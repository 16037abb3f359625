/- errors.Is where a kind is asked for: the kind alone, or one or two *api.At before it. -/
import Derived.Test.YtngpcalgjaglmaaDoorLib
import Derived.LaidEql
import Derived.Stop.Asserts
import Derived.RowKitTokens
import Derived.Lib.Hide
namespace Go
section
variable {P : Program} (w : World)
theorem run_equalIn_iface_int (d : Nat) {ti tn : TypeId} {ms : Array (String × TypeId)} {i : TypeInfo} {k : IntKind} (a b : Int)
    (hi : P.underlying ti = some (.interface ms)) (hn : P.underlying tn = some (.int k)) (hinfo : P.info? tn = some i) (hcomp : i.comparable = true) :
    (Op.equalIn (d + 2) ti (.iface tn (.int k a)) (.iface tn (.int k b))).run P w = .ok (a == b) w := by
  simp [Op.equalIn, run_underlying hi, run_underlying hn, typeInfo, hinfo, hcomp]
/-- Two interface values of one integer type: as the numbers are. -/
theorem run_eql_iface_int {ti tn : TypeId} {ms : Array (String × TypeId)} {i : TypeInfo} {k : IntKind} (a b : Int)
    (hi : P.underlying ti = some (.interface ms)) (hn : P.underlying tn = some (.int k)) (hinfo : P.info? tn = some i) (hcomp : i.comparable = true) :
    (binOp .eql ti (.iface tn (.int k a)) (.iface tn (.int k b))).run P w = .ok (.bool (a == b)) w := by
  simp only [binOp]
  simp [Op.equal, Op.maxDepth, run_equalIn_iface_int w 9998 a b hi hn hinfo hcomp]
end
end Go
namespace Go.Proofs.YtngpcalgjaglmaaDoor
open Go.RowKit Go.Extern.Stop Go.Stop Go.Extern

theorem isTypeOf (v : Value) (w : World) : (Extern.ReflectliteType.typeOf #[.iface 55 v]).run Tryd.prog w = .ok (.iface 127 (.agg #[.pointer (some ⟨1, 55, none⟩)])) w := by kernel_rfl
theorem isComparable (w : World) : ((Extern.ReflectliteType.method fun t => do Extern.Rtype.noPackHeld "Comparable" t; (fun a => Value.bool a.comparable) <$> typeInfo t) #[.agg #[.pointer (some ⟨1, 55, none⟩)]]).run Tryd.prog w = .ok (.bool true) w := by kernel_rfl
theorem isMethodComparable (v : Value) (w : World) : (Go.method 275 127 v "Comparable").run Tryd.prog w = .ok (102, v) w := by kernel_rfl
theorem errComp : (Tryd.prog.info? 55).map (·.comparable) = some true := by kernel_rfl
theorem noIsE (v : Value) (xT : TypeId) (w : World) : (Instr.typeAssert (.iface 55 v) xT 143 true).run Tryd.prog w = .ok (.tuple #[.nilIface, .bool false]) w := run_typeAssert_lacksB Tryd.underlying143 (by kernel_rfl) (by kernel_rfl) v xT w
theorem noUnwrapE (v : Value) (xT : TypeId) (w : World) : (Instr.typeAssert (.iface 55 v) xT 134 true).run Tryd.prog w = .ok (.tuple #[.nilIface, .bool false]) w := run_typeAssert_lacksB Tryd.underlying134 (by kernel_rfl) (by kernel_rfl) v xT w
theorem noUnwrapsE (v : Value) (xT : TypeId) (w : World) : (Instr.typeAssert (.iface 55 v) xT 136 true).run Tryd.prog w = .ok (.tuple #[.nilIface, .bool false]) w := run_typeAssert_lacksB Tryd.underlying136 (by kernel_rfl) (by kernel_rfl) v xT w
theorem noIsA (v : Value) (xT : TypeId) (w : World) : (Instr.typeAssert (.iface 88 v) xT 143 true).run Tryd.prog w = .ok (.tuple #[.nilIface, .bool false]) w := run_typeAssert_lacksB Tryd.underlying143 (by kernel_rfl) (by kernel_rfl) v xT w
theorem hasUnwrapA (v : Value) (xT : TypeId) (w : World) : (Instr.typeAssert (.iface 88 v) xT 134 true).run Tryd.prog w = .ok (.tuple #[.iface 88 v, .bool true]) w := run_typeAssert_hasB Tryd.underlying134 (by kernel_rfl) v xT w
theorem methodUnwrap (v : Value) (w : World) : (Go.method 275 88 v "Unwrap").run Tryd.prog w = .ok (96, v) w := by kernel_rfl

/-- v is the error with these places before the kind. -/
def ErrIs (w : World) : Value → List (ByteArray × Int) → Int → Prop
  | v, [], k => v = .iface 55 (.int .i64 k)
  | v, (l, n) :: r, k => ∃ b inner, v = .iface 88 (.pointer (some ⟨b, 0, none⟩)) ∧ w.heap[b]? = some (.cells #[.string l, .int .i64 n, inner] 92 (0, 0)) ∧ ErrIs w inner r k

theorem ErrIs.keep {w w' : World} {S : Nat → Prop} (f : Fr S w w') (hs : ∀ b c, w.heap[b]? = some (.cells c 92 (0, 0)) → ¬ S b) : ∀ {v : Value} {r : List (ByteArray × Int)} {k : Int}, ErrIs w v r k → ErrIs w' v r k
  | _, [], _, h => h
  | _, (_, _) :: _, _, ⟨b, inner, hv, hb, hr⟩ => ⟨b, inner, hv, by rw [f.block b (lt_of_block hb) (hs b _ hb)]; exact hb, ErrIs.keep f hs hr⟩
theorem ErrIs.new {w w' : World} (f : New w w') {v : Value} {r : List (ByteArray × Int)} {k : Int} (h : ErrIs w v r k) : ErrIs w' v r k := h.keep f (fun _ _ _ => id)

set_option maxRecDepth 100000 in
set_option maxHeartbeats 1000000 in
theorem is_0 (k k' : Int) (w : World) :
    Calls Tryd.prog 57 #[.iface 55 (.int .i64 k), .iface 55 (.int .i64 k')] w fun e w' => e = .returned (.bool (k == k')) ∧ w = w' := by
  obtain ⟨i, hi, hcmp⟩ := Option.map_eq_some_iff.1 errComp
  have h8 := @run_callFunc_extern Tryd.prog 66 _ Extern.ReflectliteType.typeOf Tryd.func66 (by kernel_rfl) (by kernel_rfl) (by kernel_rfl) (by kernel_rfl)
  have h32 := @run_callFunc_extern Tryd.prog 102 _ (Extern.ReflectliteType.method fun t => do Extern.Rtype.noPackHeld "Comparable" t; pure (.bool (← typeInfo t).comparable)) Tryd.func102 (by kernel_rfl) (by kernel_rfl) (by kernel_rfl) (by kernel_rfl)
  have tT := isTypeOf
  have cT := isComparable
  have mR := isMethodComparable
  have nE := noIsE
  have uE := noUnwrapE
  have vE := noUnwrapsE
  have heq := run_eql_iface_int (P := Tryd.prog) w k k' Tryd.underlying37 Tryd.underlying55 hi hcmp
  by_cases hk : (k == k') = true
  · rw [hk] at heq ⊢
    clear hk
    go_enter Tryd.func57, Tryd.ntmps57
    go_wp2
    refine wp_loop_rounds 1 ?_
    rw [rounds_succ]
    go_wp2
    go_ret
    exact ⟨rfl, rfl⟩
  · rw [Bool.not_eq_true] at hk
    rw [hk] at heq ⊢
    clear hk
    go_enter Tryd.func57, Tryd.ntmps57
    go_wp2
    refine wp_loop_rounds 1 ?_
    rw [rounds_succ]
    go_wp2
    go_ret
    exact ⟨rfl, rfl⟩

set_option maxRecDepth 100000 in
set_option maxHeartbeats 1000000 in
theorem is_1 (v : Value) (l : ByteArray) (n k k' : Int) (w : World) (hv : ErrIs w v [(l, n)] k) :
    Calls Tryd.prog 57 #[v, .iface 55 (.int .i64 k')] w fun e w' => e = .returned (.bool (k == k')) ∧ w = w' := by
  obtain ⟨b, inner, rfl, hb, rfl⟩ := hv
  have hc := cell_of_block hb 2
  have hc' : w.cell? ⟨b, 2, none⟩ = some (.iface 55 (.int .i64 k)) := hc
  clear hc hb
  obtain ⟨i, hi, hcmp⟩ := Option.map_eq_some_iff.1 errComp
  have h8 := @run_callFunc_extern Tryd.prog 66 _ Extern.ReflectliteType.typeOf Tryd.func66 (by kernel_rfl) (by kernel_rfl) (by kernel_rfl) (by kernel_rfl)
  have h32 := @run_callFunc_extern Tryd.prog 102 _ (Extern.ReflectliteType.method fun t => do Extern.Rtype.noPackHeld "Comparable" t; pure (.bool (← typeInfo t).comparable)) Tryd.func102 (by kernel_rfl) (by kernel_rfl) (by kernel_rfl) (by kernel_rfl)
  have tT := isTypeOf
  have cT := isComparable
  have mR := isMethodComparable
  have nE := noIsE
  have uE := noUnwrapE
  have vE := noUnwrapsE
  have nA := noIsA
  have uA := hasUnwrapA
  have mU := methodUnwrap
  have heq := run_eql_iface_int (P := Tryd.prog) w k k' Tryd.underlying37 Tryd.underlying55 hi hcmp
  have hty := run_eql_iface_types (P := Tryd.prog) 88 55 (.pointer (some ⟨b, 0, none⟩)) (.int .i64 k') Tryd.underlying37 (by decide) w
  by_cases hk : (k == k') = true
  · rw [hk] at heq ⊢
    clear hk
    go_enter Tryd.func57, Tryd.ntmps57
    go_wp2
    refine wp_loop_rounds 2 ?_
    rw [rounds_succ]
    go_wp2
    rw [rounds_succ]
    go_wp2
    go_ret
    exact ⟨rfl, rfl⟩
  · rw [Bool.not_eq_true] at hk
    rw [hk] at heq ⊢
    clear hk
    go_enter Tryd.func57, Tryd.ntmps57
    go_wp2
    refine wp_loop_rounds 2 ?_
    rw [rounds_succ]
    go_wp2
    rw [rounds_succ]
    go_wp2
    go_ret
    exact ⟨rfl, rfl⟩

end Go.Proofs.YtngpcalgjaglmaaDoor
