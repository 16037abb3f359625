/- errors.Is where a kind is asked for: the kind alone, or one or two *api.At before it. -/
import Derived.Test.YtngpcalgjaglmaaLib
import Derived.LaidEql
import Derived.Stop.Asserts
import Derived.RowKitTokens
import Derived.Lib.Hide
namespace Go
section
variable {P : Program} (w : World)
theorem run_equalIn_iface_int (d : Nat) {ti tn : TypeId} {ms : Array (String × TypeId)} {i : TypeInfo} {k : IntKind} (a b : Int)
    (hi : P.underlying ti = some (.interface ms)) (hn : P.underlying tn = some (.int k)) (hinfo : P.info? tn = some i) (hcomp : i.comparable = true) :
    (Op.equalIn (d + 2) ti (.iface tn (.int k a)) (.iface tn (.int k b))).run P w = .ok (a == b) w := by
  simp [Op.equalIn, run_underlying hi, run_underlying hn, typeInfo, hinfo, hcomp]
/-- Two interface values of one integer type: as the numbers are. -/
theorem run_eql_iface_int {ti tn : TypeId} {ms : Array (String × TypeId)} {i : TypeInfo} {k : IntKind} (a b : Int)
    (hi : P.underlying ti = some (.interface ms)) (hn : P.underlying tn = some (.int k)) (hinfo : P.info? tn = some i) (hcomp : i.comparable = true) :
    (binOp .eql ti (.iface tn (.int k a)) (.iface tn (.int k b))).run P w = .ok (.bool (a == b)) w := by
  simp only [binOp]
  simp [Op.equal, Op.maxDepth, run_equalIn_iface_int w 9998 a b hi hn hinfo hcomp]
end
end Go
namespace Go.Proofs.Ytngpcalgjaglmaa
open Go.RowKit Go.Extern.Stop Go.Stop Go.Extern

theorem isComparable (w : World) : ((Extern.ReflectliteType.method fun t => do Extern.Rtype.noPackHeld "Comparable" t; (fun a => Value.bool a.comparable) <$> typeInfo t) #[.agg #[.pointer (some ⟨0, 83, none⟩)]]).run Try.prog w = .ok (.bool true) w := by kernel_rfl
theorem errComp : (Try.prog.info? 83).map (·.comparable) = some true := by kernel_rfl
/-- v is the error with these places before the kind. -/
def ErrIs (w : World) : Value → List (ByteArray × Int) → Int → Prop
  | v, [], k => v = .iface 83 (.int .i64 k)
  | v, (l, n) :: r, k => ∃ b inner, v = .iface 79 (.pointer (some ⟨b, 0, none⟩)) ∧ w.heap[b]? = some (.cells #[.string l, .int .i64 n, inner] 81 (0, 0)) ∧ ErrIs w inner r k

theorem ErrIs.keep {w w' : World} {S : Nat → Prop} (f : Fr S w w') (hs : ∀ b c, w.heap[b]? = some (.cells c 81 (0, 0)) → ¬ S b) : ∀ {v : Value} {r : List (ByteArray × Int)} {k : Int}, ErrIs w v r k → ErrIs w' v r k
  | _, [], _, h => h
  | _, (_, _) :: _, _, ⟨b, inner, hv, hb, hr⟩ => ⟨b, inner, hv, by rw [f.block b (lt_of_block hb) (hs b _ hb)]; exact hb, ErrIs.keep f hs hr⟩
theorem ErrIs.new {w w' : World} (f : New w w') {v : Value} {r : List (ByteArray × Int)} {k : Int} (h : ErrIs w v r k) : ErrIs w' v r k := h.keep f (fun _ _ _ => id)

end Go.Proofs.Ytngpcalgjaglmaa
