/- errors.As where the target is a variable of type *api.At: at an *api.At it is set, at a bare kind it is not. -/
import Derived.Test.YtngpcalgjaglmaaDoorErrA
namespace Go.Proofs.YtngpcalgjaglmaaDoor
open Go.RowKit Go.Extern.Stop Go.Stop Go.Extern

theorem xValueOfPP (t : Addr) (w : World) : (ReflectliteValue.unpack (.iface 90 (.pointer (some t)))).run Tryd.prog w
    = .ok (.agg #[.pointer (some ⟨1, 90, none⟩), .pointer (some ⟨w.heap.size, 0, none⟩), .int .u64 150]) (w.alloc (.cells #[.pointer (some t)] 90)) := by kernel_rfl
theorem xTypePP (a : Addr) (w : World) : (ReflectliteValue.methodAny (ReflectliteValue.valueError "reflectlite.Value.Type" 0) (fun t _ _ _ => ReflectliteType.toType t) #[.agg #[.pointer (some ⟨1, 90, none⟩), .pointer (some a), .int .u64 150]]).run Tryd.prog w
    = .ok (.iface 127 (.agg #[.pointer (some ⟨1, 90, none⟩)])) w := by kernel_rfl
theorem xMethodKind (h : Value) (w : World) : (Go.method 275 127 (.agg #[h]) "Kind").run Tryd.prog w = .ok (87, h) w := by kernel_rfl
theorem xKindPP (w : World) : ((ReflectliteType.abiMethod fun t => (fun a : Nat => Value.int IntKind.u8 (a : Int)) <$> Rtype.kind t) #[.pointer (some ⟨1, 90, none⟩)]).run Tryd.prog w = .ok (.int .u8 22) w := by kernel_rfl
theorem xKindP (w : World) : ((ReflectliteType.abiMethod fun t => (fun a : Nat => Value.int IntKind.u8 (a : Int)) <$> Rtype.kind t) #[.pointer (some ⟨1, 88, none⟩)]).run Tryd.prog w = .ok (.int .u8 22) w := by kernel_rfl
theorem rlm (z : Sem Value) (f : TypeId → Addr → Nat → Nat → Sem Value) (v : Value) :
    ReflectliteValue.method z f #[v] = (do match ← ReflectliteValue.parts v with | none => z | some (t, a, fl) => f t a fl (fl % 32)) := rfl
theorem xPartsPP (a : Addr) (w : World) : (ReflectliteValue.parts (.agg #[.pointer (some ⟨1, 90, none⟩), .pointer (some a), .int .u64 150])).run Tryd.prog w = .ok (some (90, a, 150)) w := by kernel_rfl
theorem xIsNil (a p : Addr) (W : World) (ha : W.cell? a = some (.pointer (some p))) :
    (ReflectliteValue.method (ReflectliteValue.valueError "reflectlite.Value.IsNil" 0) ReflectliteValue.isNil #[.agg #[.pointer (some ⟨1, 90, none⟩), .pointer (some a), .int .u64 150]]).run Tryd.prog W = .ok (.bool false) W := by
  rw [rlm]
  simp only [Sem.run_bind, xPartsPP, Result.andThen]
  simp [ReflectliteValue.isNil, loadVar, isAgg, underlying, Tryd.underlying90, ha, Result.andThen]
theorem xMethodElem (h : Value) (w : World) : (Go.method 275 127 (.agg #[h]) "Elem").run Tryd.prog w = .ok (103, .agg #[h]) w := by kernel_rfl
theorem xMethodImplements (h : Value) (w : World) : (Go.method 275 127 (.agg #[h]) "Implements").run Tryd.prog w = .ok (104, .agg #[h]) w := by kernel_rfl
theorem xMethodAssignable (h : Value) (w : World) : (Go.method 275 127 (.agg #[h]) "AssignableTo").run Tryd.prog w = .ok (101, .agg #[h]) w := by kernel_rfl
theorem xElemPP (w : World) : (ReflectliteType.method ReflectliteType.elem #[.agg #[.pointer (some ⟨1, 90, none⟩)]]).run Tryd.prog w = .ok (.iface 127 (.agg #[.pointer (some ⟨1, 88, none⟩)])) w := by kernel_rfl
theorem xImplements (w : World) : (ReflectliteType.relation "Implements" ReflectliteType.implements_ #[.agg #[.pointer (some ⟨1, 88, none⟩)], .iface 127 (.agg #[.pointer (some ⟨1, 37, none⟩)])]).run Tryd.prog w = .ok (.bool true) w := by kernel_rfl
theorem xTypeOfP (v : Value) (w : World) : (ReflectliteType.typeOf #[.iface 88 v]).run Tryd.prog w = .ok (.iface 127 (.agg #[.pointer (some ⟨1, 88, none⟩)])) w := by kernel_rfl
theorem xAssignableP (w : World) : (ReflectliteType.relation "AssignableTo" ReflectliteType.assignableTo #[.agg #[.pointer (some ⟨1, 88, none⟩)], .iface 127 (.agg #[.pointer (some ⟨1, 88, none⟩)])]).run Tryd.prog w = .ok (.bool true) w := by kernel_rfl
theorem xAssignableE (w : World) : (ReflectliteType.relation "AssignableTo" ReflectliteType.assignableTo #[.agg #[.pointer (some ⟨1, 55, none⟩)], .iface 127 (.agg #[.pointer (some ⟨1, 88, none⟩)])]).run Tryd.prog w = .ok (.bool false) w := by kernel_rfl
theorem xValueOfP (e : Addr) (w : World) : (ReflectliteValue.unpack (.iface 88 (.pointer (some e)))).run Tryd.prog w
    = .ok (.agg #[.pointer (some ⟨1, 88, none⟩), .pointer (some ⟨w.heap.size, 0, none⟩), .int .u64 150]) (w.alloc (.cells #[.pointer (some e)] 88)) := by kernel_rfl
theorem xElemOfPP (w : World) : (Rtype.elem? 90).run Tryd.prog w = .ok (some 88) w := by kernel_rfl
theorem xMkP (p : Addr) (w : World) : (ReflectliteValue.mk 88 p ReflectliteValue.flagAddr).run Tryd.prog w = .ok (.agg #[.pointer (some ⟨1, 88, none⟩), .pointer (some p), .int .u64 406]) w := by kernel_rfl
theorem xElemV (a p : Addr) (W : World) (ha : W.cell? a = some (.pointer (some p))) :
    (ReflectliteValue.method (ReflectliteValue.valueError "reflectlite.Value.Elem" 0) ReflectliteValue.elem #[.agg #[.pointer (some ⟨1, 90, none⟩), .pointer (some a), .int .u64 150]]).run Tryd.prog W
      = .ok (.agg #[.pointer (some ⟨1, 88, none⟩), .pointer (some p), .int .u64 406]) W := by
  rw [rlm]
  simp only [Sem.run_bind, xPartsPP, Result.andThen]
  simp [ReflectliteValue.elem, loadVar, isAgg, underlying, Tryd.underlying90, ha, Result.andThen, xElemOfPP, xMkP]
theorem rls (v x : Value) : ReflectliteValue.set #[v, x] = (do
    let (some (dst, a, fl), some (src, b, _)) := (← ReflectliteValue.parts v, ← ReflectliteValue.parts x)
      | unsupported (.noEntry "extern/(internal/reflectlite.Value).Set.zeroValue")
    if fl / ReflectliteValue.flagAddr % 2 == 0 then unsupported (.noEntry "extern/(internal/reflectlite.Value).Set.unaddressable")
    let val ← loadVar src b
    if ← Rtype.directlyAssignable dst src then storeVar dst a val
    else if ← Rtype.implements dst src then
      if (← Rtype.kind src) == 20 then
        match val with
        | .nilIface => unsupported (.noEntry "extern/reflectlite: a nil value of one interface type handed on as a value of another")
        | _ => storeVar dst a val
      else storeVar dst a (.iface src val)
    else panicString ("reflectlite.Set: value of type " ++ (← Rtype.spelt src) ++ " is not assignable to type " ++ (← Rtype.spelt dst))
    pure (.tuple #[])) := rfl
theorem xPartsPa (a : Addr) (w : World) : (ReflectliteValue.parts (.agg #[.pointer (some ⟨1, 88, none⟩), .pointer (some a), .int .u64 406])).run Tryd.prog w = .ok (some (88, a, 406)) w := by kernel_rfl
theorem xPartsP (a : Addr) (w : World) : (ReflectliteValue.parts (.agg #[.pointer (some ⟨1, 88, none⟩), .pointer (some a), .int .u64 150])).run Tryd.prog w = .ok (some (88, a, 150)) w := by kernel_rfl
theorem xDirect (w : World) : (Rtype.directlyAssignable 88 88).run Tryd.prog w = .ok true w := by kernel_rfl
theorem xSet (ta b e : Addr) (old : Value) (W : World) (hb : W.cell? b = some (.pointer (some e))) (ht : W.cell? ta = some old) (hf : W.frozen? ta = false) :
    (ReflectliteValue.set #[.agg #[.pointer (some ⟨1, 88, none⟩), .pointer (some ta), .int .u64 406], .agg #[.pointer (some ⟨1, 88, none⟩), .pointer (some b), .int .u64 150]]).run Tryd.prog W
      = .ok (.tuple #[]) (W.setCell ta (.pointer (some e))) := by
  rw [rls]
  simp only [Sem.run_bind, xPartsPa, xPartsP, Result.andThen]
  simp [ReflectliteValue.flagAddr, loadVar, isAgg, underlying, Tryd.underlying88, hb, Result.andThen, xDirect, storeVar, Value.cells, storeCells, Addr.add]
  rw [run_store Tryd.prog W ta _ _ (by rfl)]
  simp [ht, hf]

theorem noAsE (v : Value) (xT : TypeId) (w : World) : (Instr.typeAssert (.iface 55 v) xT 131 true).run Tryd.prog w = .ok (.tuple #[.nilIface, .bool false]) w := run_typeAssert_lacksB Tryd.underlying131 (by kernel_rfl) (by kernel_rfl) v xT w

/-- The package-level variable that errors.As reads holds the type 'error'. -/
def Laid (w : World) : Prop := w.cell? ⟨0, 0, none⟩ = some (.iface 127 (.agg #[.pointer (some ⟨1, 37, none⟩)]))
theorem Laid.keep {w w' : World} {S : Nat → Prop} (h : Laid w) (f : Fr S w w') (hs : ¬ S 0) : Laid w' := (f.cell (lt_of_cell h) hs 0).trans h

noncomputable abbrev wAs (w : World) (t : Nat) : World := ((w.alloc (.cells #[.pointer (some ⟨t, 0, none⟩)] 90)).alloc (.cells #[.pointer (some ⟨1, 90, none⟩), .pointer (some ⟨w.heap.size, 0, none⟩), .int .u64 150] 115))

set_option maxRecDepth 100000 in
set_option maxHeartbeats 4000000 in
theorem as_hit (e t : Nat) (old : Value) (w : World) (hg : Laid w) (ht0 : w.cell? ⟨t, 0, none⟩ = some old) (hf0 : w.frozen? ⟨t, 0, none⟩ = false) :
    Calls Tryd.prog 39 #[.iface 88 (.pointer (some ⟨e, 0, none⟩)), .iface 90 (.pointer (some ⟨t, 0, none⟩))] w fun ev w' => ev = .returned (.bool true) ∧
      w'.cell? ⟨t, 0, none⟩ = some (.pointer (some ⟨e, 0, none⟩)) ∧ w'.frozen? ⟨t, 0, none⟩ = false ∧ Fr (· = t) w w' := by
  have h6 := @run_callFunc_extern Tryd.prog 58 _ (fun args => ReflectliteValue.unpack (args.getD 0 (.tuple #[]))) Tryd.func58 (by kernel_rfl) (by kernel_rfl) (by kernel_rfl) (by kernel_rfl)
  have h7 := @run_callFunc_extern Tryd.prog 59 _ (ReflectliteValue.methodAny (ReflectliteValue.valueError "reflectlite.Value.Type" 0) (fun t _ _ _ => ReflectliteType.toType t)) Tryd.func59 (by kernel_rfl) (by kernel_rfl) (by kernel_rfl) (by kernel_rfl)
  have h8 := @run_callFunc_extern Tryd.prog 60 _ (ReflectliteValue.method (ReflectliteValue.valueError "reflectlite.Value.IsNil" 0) ReflectliteValue.isNil) Tryd.func60 (by kernel_rfl) (by kernel_rfl) (by kernel_rfl) (by kernel_rfl)
  have h27 := @run_callFunc_extern Tryd.prog 87 _ (ReflectliteType.abiMethod fun t => do pure (.int .u8 (← Rtype.kind t))) Tryd.func87 (by kernel_rfl) (by kernel_rfl) (by kernel_rfl) (by kernel_rfl)
  have h37 := @run_callFunc_extern Tryd.prog 103 _ (ReflectliteType.method ReflectliteType.elem) Tryd.func103 (by kernel_rfl) (by kernel_rfl) (by kernel_rfl) (by kernel_rfl)
  have h38 := @run_callFunc_extern Tryd.prog 104 _ (ReflectliteType.relation "Implements" ReflectliteType.implements_) Tryd.func104 (by kernel_rfl) (by kernel_rfl) (by kernel_rfl) (by kernel_rfl)
  have h10 := @run_callFunc_extern Tryd.prog 66 _ ReflectliteType.typeOf Tryd.func66 (by kernel_rfl) (by kernel_rfl) (by kernel_rfl) (by kernel_rfl)
  have h35 := @run_callFunc_extern Tryd.prog 101 _ (ReflectliteType.relation "AssignableTo" ReflectliteType.assignableTo) Tryd.func101 (by kernel_rfl) (by kernel_rfl) (by kernel_rfl) (by kernel_rfl)
  have h11 := @run_callFunc_extern Tryd.prog 68 _ (ReflectliteValue.method (ReflectliteValue.valueError "reflectlite.Value.Elem" 0) ReflectliteValue.elem) Tryd.func68 (by kernel_rfl) (by kernel_rfl) (by kernel_rfl) (by kernel_rfl)
  have h12 := @run_callFunc_extern Tryd.prog 69 _ ReflectliteValue.set Tryd.func69 (by kernel_rfl) (by kernel_rfl) (by kernel_rfl) (by kernel_rfl)
  have tO := xTypeOfP
  have mA := xMethodAssignable
  have a25 := xAssignableP
  have v25 := xValueOfP
  have f6 := xValueOfPP
  have f7 := xTypePP
  have mK := xMethodKind
  have mE := xMethodElem
  have mI := xMethodImplements
  have k27 := xKindPP
  have k25 := xKindP
  have e27 := xElemPP
  have i25 := xImplements
  have htl : t < w.heap.size := lt_of_cell ht0
  have n8 := xIsNil ⟨w.heap.size, 0, none⟩ ⟨t, 0, none⟩ (wAs w t) (by simp)
  have hg2 : (wAs w t).cell? ⟨0, 0, none⟩ = some (.iface 127 (.agg #[.pointer (some ⟨1, 37, none⟩)])) := hg.keep (((Fr.refl (fun _ => False) _).alloc _).alloc _) id
  have el := xElemV ⟨w.heap.size, 0, none⟩ ⟨t, 0, none⟩ ((wAs w t).alloc (.cells #[.pointer (some ⟨1, 90, none⟩), .pointer (some ⟨w.heap.size, 0, none⟩), .int .u64 150] 115)) (by rw [World.cell?_alloc_lt _ _ ⟨w.heap.size, 0, none⟩ (by simp; omega)]; simp)
  have fr4 : Fr (fun _ => False) w (((wAs w t).alloc (.cells #[.pointer (some ⟨1, 90, none⟩), .pointer (some ⟨w.heap.size, 0, none⟩), .int .u64 150] 115)).alloc (.cells #[.pointer (some ⟨e, 0, none⟩)] 88)) := ((((Fr.refl _ _).alloc _).alloc _).alloc _).alloc _
  have st := xSet ⟨t, 0, none⟩ ⟨w.heap.size + 1 + 1 + 1, 0, none⟩ ⟨e, 0, none⟩ old (((wAs w t).alloc (.cells #[.pointer (some ⟨1, 90, none⟩), .pointer (some ⟨w.heap.size, 0, none⟩), .int .u64 150] 115)).alloc (.cells #[.pointer (some ⟨e, 0, none⟩)] 88))
    (by rw [World.cell?_alloc_at _ _ _ _ (by simp)]; rfl) ((fr4.cell htl id 0).trans ht0) ((fr4.frozen htl id 0).trans hf0)
  have H4 := Lib.hid fr4
  have HT := Lib.hid ht0
  have HF := Lib.hid hf0
  clear fr4 ht0 hf0
  go_enter Tryd.func39, Tryd.ntmps39
  go_wp2
  refine wp_loop_rounds 1 ?_
  rw [rounds_succ]
  go_wp2
  go_ret
  exact ⟨rfl, cell_set_eq _ ((H4.out.cell htl id 0).trans HT.out), by rw [World.frozen?_setCell]; exact (H4.out.frozen htl id 0).trans HF.out, Fr.setCell (S := (· = t)) (H4.out.mono (fun _ _ h => h.elim)) (fun _ => by rfl) _⟩

set_option maxRecDepth 100000 in
set_option maxHeartbeats 4000000 in
theorem as_miss (k : Int) (t : Nat) (w : World) (hg : Laid w) :
    Calls Tryd.prog 39 #[.iface 55 (.int .i64 k), .iface 90 (.pointer (some ⟨t, 0, none⟩))] w fun ev w' => ev = .returned (.bool false) ∧ New w w' := by
  have h6 := @run_callFunc_extern Tryd.prog 58 _ (fun args => ReflectliteValue.unpack (args.getD 0 (.tuple #[]))) Tryd.func58 (by kernel_rfl) (by kernel_rfl) (by kernel_rfl) (by kernel_rfl)
  have h7 := @run_callFunc_extern Tryd.prog 59 _ (ReflectliteValue.methodAny (ReflectliteValue.valueError "reflectlite.Value.Type" 0) (fun t _ _ _ => ReflectliteType.toType t)) Tryd.func59 (by kernel_rfl) (by kernel_rfl) (by kernel_rfl) (by kernel_rfl)
  have h8 := @run_callFunc_extern Tryd.prog 60 _ (ReflectliteValue.method (ReflectliteValue.valueError "reflectlite.Value.IsNil" 0) ReflectliteValue.isNil) Tryd.func60 (by kernel_rfl) (by kernel_rfl) (by kernel_rfl) (by kernel_rfl)
  have h27 := @run_callFunc_extern Tryd.prog 87 _ (ReflectliteType.abiMethod fun t => do pure (.int .u8 (← Rtype.kind t))) Tryd.func87 (by kernel_rfl) (by kernel_rfl) (by kernel_rfl) (by kernel_rfl)
  have h37 := @run_callFunc_extern Tryd.prog 103 _ (ReflectliteType.method ReflectliteType.elem) Tryd.func103 (by kernel_rfl) (by kernel_rfl) (by kernel_rfl) (by kernel_rfl)
  have h38 := @run_callFunc_extern Tryd.prog 104 _ (ReflectliteType.relation "Implements" ReflectliteType.implements_) Tryd.func104 (by kernel_rfl) (by kernel_rfl) (by kernel_rfl) (by kernel_rfl)
  have h10 := @run_callFunc_extern Tryd.prog 66 _ ReflectliteType.typeOf Tryd.func66 (by kernel_rfl) (by kernel_rfl) (by kernel_rfl) (by kernel_rfl)
  have h35 := @run_callFunc_extern Tryd.prog 101 _ (ReflectliteType.relation "AssignableTo" ReflectliteType.assignableTo) Tryd.func101 (by kernel_rfl) (by kernel_rfl) (by kernel_rfl) (by kernel_rfl)
  have tO := isTypeOf
  have mA := xMethodAssignable
  have aE := xAssignableE
  have f6 := xValueOfPP
  have f7 := xTypePP
  have mK := xMethodKind
  have mE := xMethodElem
  have mI := xMethodImplements
  have k27 := xKindPP
  have k25 := xKindP
  have e27 := xElemPP
  have i25 := xImplements
  have nA := noAsE
  have uE := noUnwrapE
  have vE := noUnwrapsE
  have n8 := xIsNil ⟨w.heap.size, 0, none⟩ ⟨t, 0, none⟩ (wAs w t) (by simp)
  have hg2 : (wAs w t).cell? ⟨0, 0, none⟩ = some (.iface 127 (.agg #[.pointer (some ⟨1, 37, none⟩)])) := hg.keep (((Fr.refl (fun _ => False) _).alloc _).alloc _) id
  go_enter Tryd.func39, Tryd.ntmps39
  go_wp2
  refine wp_loop_rounds 1 ?_
  rw [rounds_succ]
  go_wp2
  go_ret
  exact ⟨rfl, (((Fr.refl _ _).alloc _).alloc _).alloc _⟩

end Go.Proofs.YtngpcalgjaglmaaDoor
