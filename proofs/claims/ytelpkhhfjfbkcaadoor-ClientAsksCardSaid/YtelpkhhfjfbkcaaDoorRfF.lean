/-
  The entries of internal/reflectlite at the types of this seat.
-/
import Derived.Test.YtelpkhhfjfbkcaaDoorRows
import Derived.Test.YtelpkhhfjfbkcaaDoorErrM
set_option linter.unusedSimpArgs false
set_option linter.unusedVariables false
set_option linter.unnecessarySimpa false
set_option maxRecDepth 8000
namespace Go.Proofs.YtelpkhhfjfbkcaaDoor
open Go Go.Esp Go.Extern
theorem R.ext_TypeOf : Ext Tryd.prog 68 ReflectliteType.typeOf := fun args w => by kernel_rfl
theorem R.ext_Comparable : Ext Tryd.prog 143 (ReflectliteType.method fun t => do Rtype.noPackHeld "Comparable" t; pure (.bool (← typeInfo t).comparable)) := fun args w => by kernel_rfl
theorem R.ext_ValueOf : Ext Tryd.prog 82 (fun args => ReflectliteValue.unpack (args.getD 0 (.tuple #[]))) := fun args w => by kernel_rfl
theorem R.ext_VType : Ext Tryd.prog 83 (ReflectliteValue.methodAny (ReflectliteValue.valueError "reflectlite.Value.Type" 0) (fun t _ _ _ => ReflectliteType.toType t)) := fun args w => by kernel_rfl
theorem R.ext_Kind : Ext Tryd.prog 108 (ReflectliteType.abiMethod fun t => do pure (.int .u8 (← Rtype.kind t))) := fun args w => by kernel_rfl
theorem R.ext_IsNil : Ext Tryd.prog 84 (ReflectliteValue.method (ReflectliteValue.valueError "reflectlite.Value.IsNil" 0) ReflectliteValue.isNil) := fun args w => by kernel_rfl
theorem R.ext_Elem : Ext Tryd.prog 144 (ReflectliteType.method ReflectliteType.elem) := fun args w => by kernel_rfl
theorem R.ext_Implements : Ext Tryd.prog 145 (ReflectliteType.relation "Implements" ReflectliteType.implements_) := fun args w => by kernel_rfl
theorem R.ext_AssignableTo : Ext Tryd.prog 142 (ReflectliteType.relation "AssignableTo" ReflectliteType.assignableTo) := fun args w => by kernel_rfl
theorem R.ext_VElem : Ext Tryd.prog 91 (ReflectliteValue.method (ReflectliteValue.valueError "reflectlite.Value.Elem" 0) ReflectliteValue.elem) := fun args w => by kernel_rfl
theorem R.ext_VSet : Ext Tryd.prog 92 ReflectliteValue.set := fun args w => by kernel_rfl
theorem R.tyo111 (v : Value) (w : World) : (ReflectliteType.typeOf #[.iface 111 v]).run Tryd.prog w = .ok (.iface 148 (.agg #[.pointer (some ⟨5, 111, none⟩)])) w := by kernel_rfl
theorem R.tyo116 (v : Value) (w : World) : (ReflectliteType.typeOf #[.iface 116 v]).run Tryd.prog w = .ok (.iface 148 (.agg #[.pointer (some ⟨5, 116, none⟩)])) w := by kernel_rfl
theorem R.tyo119 (v : Value) (w : World) : (ReflectliteType.typeOf #[.iface 119 v]).run Tryd.prog w = .ok (.iface 148 (.agg #[.pointer (some ⟨5, 119, none⟩)])) w := by kernel_rfl
theorem R.m_Comparable (h : Value) : Meth Tryd.prog 148 (.agg #[h]) "Comparable" 143 (.agg #[h]) := fun w => by kernel_rfl
theorem R.m_Kind (h : Value) : Meth Tryd.prog 148 (.agg #[h]) "Kind" 108 (h) := fun w => by kernel_rfl
theorem R.m_Elem (h : Value) : Meth Tryd.prog 148 (.agg #[h]) "Elem" 144 (.agg #[h]) := fun w => by kernel_rfl
theorem R.m_Implements (h : Value) : Meth Tryd.prog 148 (.agg #[h]) "Implements" 145 (.agg #[h]) := fun w => by kernel_rfl
theorem R.m_AssignableTo (h : Value) : Meth Tryd.prog 148 (.agg #[h]) "AssignableTo" 142 (.agg #[h]) := fun w => by kernel_rfl
theorem R.cmp (w : World) : ((ReflectliteType.method fun t => do Rtype.noPackHeld "Comparable" t; pure (.bool (← typeInfo t).comparable)) #[.agg #[.pointer (some ⟨5, 111, none⟩)]]).run Tryd.prog w = .ok (.bool true) w := by kernel_rfl
theorem R.vo113 (t : Addr) (w : World) : (ReflectliteValue.unpack (.iface 113 (.pointer (some t)))).run Tryd.prog w = .ok (.agg #[.pointer (some ⟨5, 113, none⟩), .pointer (some ⟨w.heap.size, 0, none⟩), .int .u64 150]) (w.alloc (.cells #[.pointer (some t)] 113)) := by kernel_rfl
theorem R.vo111 (c : Value) (w : World) : (ReflectliteValue.unpack (.iface 111 (.agg #[c]))).run Tryd.prog w = .ok (.agg #[.pointer (some ⟨5, 111, none⟩), .pointer (some ⟨w.heap.size, 0, none⟩), .int .u64 153]) (w.alloc (.cells #[c] 111)) := by kernel_rfl
theorem R.vty (a : Addr) (w : World) : ((ReflectliteValue.methodAny (ReflectliteValue.valueError "reflectlite.Value.Type" 0) (fun t _ _ _ => ReflectliteType.toType t)) #[.agg #[.pointer (some ⟨5, 113, none⟩), .pointer (some a), .int .u64 150]]).run Tryd.prog w = .ok (.iface 148 (.agg #[.pointer (some ⟨5, 113, none⟩)])) w := by kernel_rfl
theorem R.kind113 (w : World) : ((ReflectliteType.abiMethod fun t => do pure (.int .u8 (← Rtype.kind t))) #[.pointer (some ⟨5, 113, none⟩)]).run Tryd.prog w = .ok (.int .u8 22) w := by kernel_rfl
theorem R.kind111 (w : World) : ((ReflectliteType.abiMethod fun t => do pure (.int .u8 (← Rtype.kind t))) #[.pointer (some ⟨5, 111, none⟩)]).run Tryd.prog w = .ok (.int .u8 25) w := by kernel_rfl
theorem R.elem (w : World) : ((ReflectliteType.method ReflectliteType.elem) #[.agg #[.pointer (some ⟨5, 113, none⟩)]]).run Tryd.prog w = .ok (.iface 148 (.agg #[.pointer (some ⟨5, 111, none⟩)])) w := by kernel_rfl
theorem R.imp (w : World) : ((ReflectliteType.relation "Implements" ReflectliteType.implements_) #[.agg #[.pointer (some ⟨5, 111, none⟩)], .iface 148 (.agg #[.pointer (some ⟨5, 71, none⟩)])]).run Tryd.prog w = .ok (.bool true) w := by kernel_rfl
theorem R.asg111 (w : World) : ((ReflectliteType.relation "AssignableTo" ReflectliteType.assignableTo) #[.agg #[.pointer (some ⟨5, 111, none⟩)], .iface 148 (.agg #[.pointer (some ⟨5, 111, none⟩)])]).run Tryd.prog w = .ok (.bool true) w := by kernel_rfl
theorem R.asg116 (w : World) : ((ReflectliteType.relation "AssignableTo" ReflectliteType.assignableTo) #[.agg #[.pointer (some ⟨5, 116, none⟩)], .iface 148 (.agg #[.pointer (some ⟨5, 111, none⟩)])]).run Tryd.prog w = .ok (.bool false) w := by kernel_rfl
theorem R.asg119 (w : World) : ((ReflectliteType.relation "AssignableTo" ReflectliteType.assignableTo) #[.agg #[.pointer (some ⟨5, 119, none⟩)], .iface 148 (.agg #[.pointer (some ⟨5, 111, none⟩)])]).run Tryd.prog w = .ok (.bool false) w := by kernel_rfl
theorem R.partsP (a : Addr) (w : World) : (ReflectliteValue.parts (.agg #[.pointer (some ⟨5, 113, none⟩), .pointer (some a), .int .u64 150])).run Tryd.prog w = .ok (some (113, a, 150)) w := by kernel_rfl
theorem R.partsA (a : Addr) (w : World) : (ReflectliteValue.parts (.agg #[.pointer (some ⟨5, 111, none⟩), .pointer (some a), .int .u64 409])).run Tryd.prog w = .ok (some (111, a, 409)) w := by kernel_rfl
theorem R.partsC (a : Addr) (w : World) : (ReflectliteValue.parts (.agg #[.pointer (some ⟨5, 111, none⟩), .pointer (some a), .int .u64 153])).run Tryd.prog w = .ok (some (111, a, 153)) w := by kernel_rfl
theorem R.elemOf (w : World) : (Rtype.elem? 113).run Tryd.prog w = .ok (some 111) w := by kernel_rfl
theorem R.mkA (p : Addr) (w : World) : (ReflectliteValue.mk 111 p ReflectliteValue.flagAddr).run Tryd.prog w = .ok (.agg #[.pointer (some ⟨5, 111, none⟩), .pointer (some p), .int .u64 409]) w := by kernel_rfl
theorem R.direct (w : World) : (Rtype.directlyAssignable 111 111).run Tryd.prog w = .ok (true) w := by kernel_rfl
theorem R.rlm (z : Sem Value) (f : TypeId → Addr → Nat → Nat → Sem Value) (v : Value) :
    ReflectliteValue.method z f #[v] = (do match ← ReflectliteValue.parts v with | none => z | some (t, a, fl) => f t a fl (fl % 32)) := rfl
theorem R.isNil (a p : Addr) (W : World) (ha : W.cell? a = some (.pointer (some p))) : ((ReflectliteValue.method (ReflectliteValue.valueError "reflectlite.Value.IsNil" 0) ReflectliteValue.isNil) #[.agg #[.pointer (some ⟨5, 113, none⟩), .pointer (some a), .int .u64 150]]).run Tryd.prog W = .ok (.bool false) W := by
  rw [R.rlm]
  simp only [Sem.run_bind, R.partsP, Result.andThen]
  simp [ReflectliteValue.isNil, loadVar, isAgg, underlying, Tryd.underlying113, ha, Result.andThen]
theorem R.vElem (a p : Addr) (W : World) (ha : W.cell? a = some (.pointer (some p))) : ((ReflectliteValue.method (ReflectliteValue.valueError "reflectlite.Value.Elem" 0) ReflectliteValue.elem) #[.agg #[.pointer (some ⟨5, 113, none⟩), .pointer (some a), .int .u64 150]]).run Tryd.prog W = .ok (.agg #[.pointer (some ⟨5, 111, none⟩), .pointer (some p), .int .u64 409]) W := by
  rw [R.rlm]
  simp only [Sem.run_bind, R.partsP, Result.andThen]
  simp [ReflectliteValue.elem, loadVar, isAgg, underlying, Tryd.underlying113, ha, Result.andThen, R.elemOf, R.mkA]
theorem R.rls (v x : Value) : ReflectliteValue.set #[v, x] = (do
    let (some (dst, a, fl), some (src, b, _)) := (← ReflectliteValue.parts v, ← ReflectliteValue.parts x)
      | unsupported (.noEntry "extern/(internal/reflectlite.Value).Set.zeroValue")
    if fl / ReflectliteValue.flagAddr % 2 == 0 then unsupported (.noEntry "extern/(internal/reflectlite.Value).Set.unaddressable")
    let val ← loadVar src b
    if ← Rtype.directlyAssignable dst src then storeVar dst a val
    else if ← Rtype.implements dst src then
      if (← Rtype.kind src) == 20 then
        match val with
        | .nilIface => unsupported (.noEntry "extern/reflectlite: a nil value of one interface type handed on as a value of another")
        | _ => storeVar dst a val
      else storeVar dst a (.iface src val)
    else panicString ("reflectlite.Set: value of type " ++ (← Rtype.spelt src) ++ " is not assignable to type " ++ (← Rtype.spelt dst))
    pure (.tuple #[])) := rfl
theorem R.lay : lay Tryd.prog 111 = some (true, 1) := by kernel_rfl
theorem R.set (bt b : Nat) (z c : Int) (T : TypeId) (W : World) (hb : W.heap[b]? = some (rowO [.one (.int .i64 c)] T)) (ht : W.heap[bt]? = some (rowO [.one (.int .i64 z)] 111)) :
    ∃ w', (ReflectliteValue.set #[.agg #[.pointer (some ⟨5, 111, none⟩), .pointer (some ⟨bt, 0, none⟩), .int .u64 409], .agg #[.pointer (some ⟨5, 111, none⟩), .pointer (some ⟨b, 0, none⟩), .int .u64 153]]).run Tryd.prog W = .ok (.tuple #[]) w' ∧
      w'.heap[bt]? = some (rowO [.one (.int .i64 c)] 111) ∧ (∀ d, d ≠ bt → w'.heap[d]? = W.heap[d]?) ∧ SameIO W w' := by
  have h1 : (loadVar 111 ⟨b, 0, none⟩).run Tryd.prog W = .ok (aggV [.one (.int .i64 c)]) W := run_loadVar' (r := [.one (.int .i64 c)]) hb R.lay rfl rfl rfl
  obtain ⟨w', h2, h3, h4, h5⟩ := run_storeAt' (P := Tryd.prog) (q := [.one (.int .i64 c)]) (u := [.one (.int .i64 c)]) (off := 0) ht R.lay (.agg _) (flat_one rfl flat_nil) rfl rfl
  refine ⟨w', ?_, h3, h4, h5⟩
  have h2' : (storeVar 111 ⟨bt, 0, none⟩ (aggV [.one (.int .i64 c)])).run Tryd.prog W = .ok () w' := h2
  rw [R.rls]
  simp only [Sem.run_bind, R.partsA, R.partsC, Result.andThen]
  simp [ReflectliteValue.flagAddr, h1, Result.andThen, R.direct, h2']
theorem R.setSt (bt b : Nat) (z c : Int) (T : TypeId) {M : Mem} {H H' : Hp} (hu : Upd bt (rowO [.one (.int .i64 z)] 111) (rowO [.one (.int .i64 c)] 111) H H') (hb : (b, rowO [.one (.int .i64 c)] T) ∈ H) :
    ∀ F w, St M (F ++ H) w → ∃ w', (ReflectliteValue.set #[.agg #[.pointer (some ⟨5, 111, none⟩), .pointer (some ⟨bt, 0, none⟩), .int .u64 409], .agg #[.pointer (some ⟨5, 111, none⟩), .pointer (some ⟨b, 0, none⟩), .int .u64 153]]).run Tryd.prog w = .ok (.tuple #[]) w' ∧ St M (F ++ H') w' := by
  intro F w hw
  obtain ⟨w', h1, h2, h3, h4⟩ := R.set bt b z c T w (hw.own _ _ (List.mem_append_right _ hb)) (hw.own _ _ (List.mem_append_right _ hu.mem))
  exact ⟨w', h1, hw.upd (hu.over F) h2 (fun d hd x hx => by rw [h3 d hd]; exact hx) h4⟩

end Go.Proofs.YtelpkhhfjfbkcaaDoor
