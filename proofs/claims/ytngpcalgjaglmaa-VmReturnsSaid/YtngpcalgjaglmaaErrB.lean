/- errors.As where the target is a variable of type *api.At: at an *api.At it is set, at a bare kind it is not. -/
import Derived.Test.YtngpcalgjaglmaaErrA
namespace Go.Proofs.Ytngpcalgjaglmaa
open Go.RowKit Go.Extern.Stop Go.Stop Go.Extern

theorem xKindP (w : World) : ((ReflectliteType.abiMethod fun t => (fun a : Nat => Value.int IntKind.u8 (a : Int)) <$> Rtype.kind t) #[.pointer (some ⟨0, 79, none⟩)]).run Try.prog w = .ok (.int .u8 22) w := by kernel_rfl
theorem rlm (z : Sem Value) (f : TypeId → Addr → Nat → Nat → Sem Value) (v : Value) :
    ReflectliteValue.method z f #[v] = (do match ← ReflectliteValue.parts v with | none => z | some (t, a, fl) => f t a fl (fl % 32)) := rfl
theorem xValueOfP (e : Addr) (w : World) : (ReflectliteValue.unpack (.iface 79 (.pointer (some e)))).run Try.prog w
    = .ok (.agg #[.pointer (some ⟨0, 79, none⟩), .pointer (some ⟨w.heap.size, 0, none⟩), .int .u64 150]) (w.alloc (.cells #[.pointer (some e)] 79)) := by kernel_rfl
theorem xMkP (p : Addr) (w : World) : (ReflectliteValue.mk 79 p ReflectliteValue.flagAddr).run Try.prog w = .ok (.agg #[.pointer (some ⟨0, 79, none⟩), .pointer (some p), .int .u64 406]) w := by kernel_rfl
theorem rls (v x : Value) : ReflectliteValue.set #[v, x] = (do
    let (some (dst, a, fl), some (src, b, _)) := (← ReflectliteValue.parts v, ← ReflectliteValue.parts x)
      | unsupported (.noEntry "extern/(internal/reflectlite.Value).Set.zeroValue")
    if fl / ReflectliteValue.flagAddr % 2 == 0 then unsupported (.noEntry "extern/(internal/reflectlite.Value).Set.unaddressable")
    let val ← loadVar src b
    if ← Rtype.directlyAssignable dst src then storeVar dst a val
    else if ← Rtype.implements dst src then
      if (← Rtype.kind src) == 20 then
        match val with
        | .nilIface => unsupported (.noEntry "extern/reflectlite: a nil value of one interface type handed on as a value of another")
        | _ => storeVar dst a val
      else storeVar dst a (.iface src val)
    else panicString ("reflectlite.Set: value of type " ++ (← Rtype.spelt src) ++ " is not assignable to type " ++ (← Rtype.spelt dst))
    pure (.tuple #[])) := rfl
theorem xPartsPa (a : Addr) (w : World) : (ReflectliteValue.parts (.agg #[.pointer (some ⟨0, 79, none⟩), .pointer (some a), .int .u64 406])).run Try.prog w = .ok (some (79, a, 406)) w := by kernel_rfl
theorem xPartsP (a : Addr) (w : World) : (ReflectliteValue.parts (.agg #[.pointer (some ⟨0, 79, none⟩), .pointer (some a), .int .u64 150])).run Try.prog w = .ok (some (79, a, 150)) w := by kernel_rfl
theorem xDirect (w : World) : (Rtype.directlyAssignable 79 79).run Try.prog w = .ok true w := by kernel_rfl
theorem xSet (ta b e : Addr) (old : Value) (W : World) (hb : W.cell? b = some (.pointer (some e))) (ht : W.cell? ta = some old) (hf : W.frozen? ta = false) :
    (ReflectliteValue.set #[.agg #[.pointer (some ⟨0, 79, none⟩), .pointer (some ta), .int .u64 406], .agg #[.pointer (some ⟨0, 79, none⟩), .pointer (some b), .int .u64 150]]).run Try.prog W
      = .ok (.tuple #[]) (W.setCell ta (.pointer (some e))) := by
  rw [rls]
  simp only [Sem.run_bind, xPartsPa, xPartsP, Result.andThen]
  simp [ReflectliteValue.flagAddr, loadVar, isAgg, underlying, Try.underlying79, hb, Result.andThen, xDirect, storeVar, Value.cells, storeCells, Addr.add]
  rw [run_store Try.prog W ta _ _ (by rfl)]
  simp [ht, hf]

end Go.Proofs.Ytngpcalgjaglmaa
