/- errors.As at the two targets of api.Number and api.Place. -/
import Derived.Test.YtcdgjgoplogiiaaDoorCut
import Derived.LaidEql
import Derived.Stop.Asserts
import Derived.RowKitTokens
namespace Go.Proofs.YtcdgjgoplogiiaaDoor.PT
open Go.RowKit Go.Lib Go.Extern.Stop Go.Stop Go.Extern
set_option linter.unusedVariables false
set_option linter.unusedSimpArgs false
/-- Where types' handles lie. -/
abbrev HT : Nat := 5
abbrev TV : TypeId := 153
abbrev TRt : TypeId := 182
theorem rlm (z : Sem Value) (f : TypeId → Addr → Nat → Nat → Sem Value) (v : Value) :
    ReflectliteValue.method z f #[v] = (do match ← ReflectliteValue.parts v with | none => z | some (t, a, fl) => f t a fl (fl % 32)) := rfl
theorem rls (v x : Value) : ReflectliteValue.set #[v, x] = (do
    let (some (dst, a, fl), some (src, b, _)) := (← ReflectliteValue.parts v, ← ReflectliteValue.parts x)
      | unsupported (.noEntry "extern/(internal/reflectlite.Value).Set.zeroValue")
    if fl / ReflectliteValue.flagAddr % 2 == 0 then unsupported (.noEntry "extern/(internal/reflectlite.Value).Set.unaddressable")
    let val ← loadVar src b
    if ← Rtype.directlyAssignable dst src then storeVar dst a val
    else if ← Rtype.implements dst src then
      if (← Rtype.kind src) == 20 then
        match val with
        | .nilIface => unsupported (.noEntry "extern/reflectlite: a nil value of one interface type handed on as a value of another")
        | _ => storeVar dst a val
      else storeVar dst a (.iface src val)
    else panicString ("reflectlite.Set: value of type " ++ (← Rtype.spelt src) ++ " is not assignable to type " ++ (← Rtype.spelt dst))
    pure (.tuple #[])) := rfl
theorem methodKind (h : Value) (w : World) : (Go.method 257 TRt (.agg #[h]) "Kind").run Tryd.prog w = .ok (157, h) w := by kernel_rfl
theorem methodElem (h : Value) (w : World) : (Go.method 257 TRt (.agg #[h]) "Elem").run Tryd.prog w = .ok (170, .agg #[h]) w := by kernel_rfl
theorem methodImplements (h : Value) (w : World) : (Go.method 257 TRt (.agg #[h]) "Implements").run Tryd.prog w = .ok (171, .agg #[h]) w := by kernel_rfl
theorem methodAssignableTo (h : Value) (w : World) : (Go.method 257 TRt (.agg #[h]) "AssignableTo").run Tryd.prog w = .ok (168, .agg #[h]) w := by kernel_rfl
theorem valueOf_F (t : Addr) (w : World) : (ReflectliteValue.unpack (.iface 107 (.pointer (some t)))).run Tryd.prog w
    = .ok (.agg #[.pointer (some ⟨HT, 107, none⟩), .pointer (some ⟨w.heap.size, 0, none⟩), .int .u64 150]) (w.alloc (.cells #[.pointer (some t)] 107)) := by kernel_rfl
theorem type_F (a : Addr) (w : World) : (ReflectliteValue.methodAny (ReflectliteValue.valueError "reflectlite.Value.Type" 0) (fun t _ _ _ => ReflectliteType.toType t) #[.agg #[.pointer (some ⟨HT, 107, none⟩), .pointer (some a), .int .u64 150]]).run Tryd.prog w
    = .ok (.iface TRt (.agg #[.pointer (some ⟨HT, 107, none⟩)])) w := by kernel_rfl
theorem kind_F (w : World) : ((ReflectliteType.abiMethod fun t => (fun a : Nat => Value.int IntKind.u8 (a : Int)) <$> Rtype.kind t) #[.pointer (some ⟨HT, 107, none⟩)]).run Tryd.prog w = .ok (.int .u8 22) w := by kernel_rfl
theorem kindE_F (w : World) : ((ReflectliteType.abiMethod fun t => (fun a : Nat => Value.int IntKind.u8 (a : Int)) <$> Rtype.kind t) #[.pointer (some ⟨HT, 106, none⟩)]).run Tryd.prog w = .ok (.int .u8 22) w := by kernel_rfl
theorem parts_F (a : Addr) (w : World) : (ReflectliteValue.parts (.agg #[.pointer (some ⟨HT, 107, none⟩), .pointer (some a), .int .u64 150])).run Tryd.prog w = .ok (some (107, a, 150)) w := by kernel_rfl
theorem isNil_F (a p : Addr) (W : World) (ha : W.cell? a = some (.pointer (some p))) :
    (ReflectliteValue.method (ReflectliteValue.valueError "reflectlite.Value.IsNil" 0) ReflectliteValue.isNil #[.agg #[.pointer (some ⟨HT, 107, none⟩), .pointer (some a), .int .u64 150]]).run Tryd.prog W = .ok (.bool false) W := by
  rw [rlm]
  simp only [Sem.run_bind, parts_F, Result.andThen]
  simp [ReflectliteValue.isNil, loadVar, isAgg, underlying, Tryd.underlying107, ha, Result.andThen]
theorem elem_F (w : World) : (ReflectliteType.method ReflectliteType.elem #[.agg #[.pointer (some ⟨HT, 107, none⟩)]]).run Tryd.prog w = .ok (.iface TRt (.agg #[.pointer (some ⟨HT, 106, none⟩)])) w := by kernel_rfl
theorem implements_F (w : World) : (ReflectliteType.relation "Implements" ReflectliteType.implements_ #[.agg #[.pointer (some ⟨HT, 106, none⟩)], .iface TRt (.agg #[.pointer (some ⟨HT, 33, none⟩)])]).run Tryd.prog w = .ok (.bool true) w := by kernel_rfl
theorem elemOf_F (w : World) : (Rtype.elem? 107).run Tryd.prog w = .ok (some 106) w := by kernel_rfl
theorem mk_F (p : Addr) (w : World) : (ReflectliteValue.mk 106 p ReflectliteValue.flagAddr).run Tryd.prog w = .ok (.agg #[.pointer (some ⟨HT, 106, none⟩), .pointer (some p), .int .u64 406]) w := by kernel_rfl
theorem elemV_F (a p : Addr) (W : World) (ha : W.cell? a = some (.pointer (some p))) :
    (ReflectliteValue.method (ReflectliteValue.valueError "reflectlite.Value.Elem" 0) ReflectliteValue.elem #[.agg #[.pointer (some ⟨HT, 107, none⟩), .pointer (some a), .int .u64 150]]).run Tryd.prog W
      = .ok (.agg #[.pointer (some ⟨HT, 106, none⟩), .pointer (some p), .int .u64 406]) W := by
  rw [rlm]
  simp only [Sem.run_bind, parts_F, Result.andThen]
  simp [ReflectliteValue.elem, loadVar, isAgg, underlying, Tryd.underlying107, ha, Result.andThen, elemOf_F, mk_F]
theorem partsA_F (a : Addr) (w : World) : (ReflectliteValue.parts (.agg #[.pointer (some ⟨HT, 106, none⟩), .pointer (some a), .int .u64 406])).run Tryd.prog w = .ok (some (106, a, 406)) w := by kernel_rfl
theorem partsB_F (a : Addr) (w : World) : (ReflectliteValue.parts (.agg #[.pointer (some ⟨HT, 106, none⟩), .pointer (some a), .int .u64 150])).run Tryd.prog w = .ok (some (106, a, 150)) w := by kernel_rfl
theorem direct_F (w : World) : (Rtype.directlyAssignable 106 106).run Tryd.prog w = .ok true w := by kernel_rfl
theorem set_F (ta b : Addr) (old e : Option Addr) (W : World) (hb : W.cell? b = some ((.pointer e))) (ht : W.cell? ta = some ((.pointer old))) (hf : W.frozen? ta = false) :
    (ReflectliteValue.set #[.agg #[.pointer (some ⟨HT, 106, none⟩), .pointer (some ta), .int .u64 406], .agg #[.pointer (some ⟨HT, 106, none⟩), .pointer (some b), .int .u64 150]]).run Tryd.prog W
      = .ok (.tuple #[]) (W.setCell ta ((.pointer e))) := by
  rw [rls]
  simp only [Sem.run_bind, partsA_F, partsB_F, Result.andThen]
  simp [ReflectliteValue.flagAddr, loadVar, isAgg, underlying, Tryd.underlying106, hb, Result.andThen, direct_F, storeVar, Value.cells, storeCells, Addr.add]
  rw [run_store Tryd.prog W ta _ _ (by rfl)]
  simp [ht, hf]
theorem valueOf_N (t : Addr) (w : World) : (ReflectliteValue.unpack (.iface 105 (.pointer (some t)))).run Tryd.prog w
    = .ok (.agg #[.pointer (some ⟨HT, 105, none⟩), .pointer (some ⟨w.heap.size, 0, none⟩), .int .u64 150]) (w.alloc (.cells #[.pointer (some t)] 105)) := by kernel_rfl
theorem type_N (a : Addr) (w : World) : (ReflectliteValue.methodAny (ReflectliteValue.valueError "reflectlite.Value.Type" 0) (fun t _ _ _ => ReflectliteType.toType t) #[.agg #[.pointer (some ⟨HT, 105, none⟩), .pointer (some a), .int .u64 150]]).run Tryd.prog w
    = .ok (.iface TRt (.agg #[.pointer (some ⟨HT, 105, none⟩)])) w := by kernel_rfl
theorem kind_N (w : World) : ((ReflectliteType.abiMethod fun t => (fun a : Nat => Value.int IntKind.u8 (a : Int)) <$> Rtype.kind t) #[.pointer (some ⟨HT, 105, none⟩)]).run Tryd.prog w = .ok (.int .u8 22) w := by kernel_rfl
theorem kindE_N (w : World) : ((ReflectliteType.abiMethod fun t => (fun a : Nat => Value.int IntKind.u8 (a : Int)) <$> Rtype.kind t) #[.pointer (some ⟨HT, 51, none⟩)]).run Tryd.prog w = .ok (.int .u8 2) w := by kernel_rfl
theorem parts_N (a : Addr) (w : World) : (ReflectliteValue.parts (.agg #[.pointer (some ⟨HT, 105, none⟩), .pointer (some a), .int .u64 150])).run Tryd.prog w = .ok (some (105, a, 150)) w := by kernel_rfl
theorem isNil_N (a p : Addr) (W : World) (ha : W.cell? a = some (.pointer (some p))) :
    (ReflectliteValue.method (ReflectliteValue.valueError "reflectlite.Value.IsNil" 0) ReflectliteValue.isNil #[.agg #[.pointer (some ⟨HT, 105, none⟩), .pointer (some a), .int .u64 150]]).run Tryd.prog W = .ok (.bool false) W := by
  rw [rlm]
  simp only [Sem.run_bind, parts_N, Result.andThen]
  simp [ReflectliteValue.isNil, loadVar, isAgg, underlying, Tryd.underlying105, ha, Result.andThen]
theorem elem_N (w : World) : (ReflectliteType.method ReflectliteType.elem #[.agg #[.pointer (some ⟨HT, 105, none⟩)]]).run Tryd.prog w = .ok (.iface TRt (.agg #[.pointer (some ⟨HT, 51, none⟩)])) w := by kernel_rfl
theorem implements_N (w : World) : (ReflectliteType.relation "Implements" ReflectliteType.implements_ #[.agg #[.pointer (some ⟨HT, 51, none⟩)], .iface TRt (.agg #[.pointer (some ⟨HT, 33, none⟩)])]).run Tryd.prog w = .ok (.bool true) w := by kernel_rfl
theorem elemOf_N (w : World) : (Rtype.elem? 105).run Tryd.prog w = .ok (some 51) w := by kernel_rfl
theorem mk_N (p : Addr) (w : World) : (ReflectliteValue.mk 51 p ReflectliteValue.flagAddr).run Tryd.prog w = .ok (.agg #[.pointer (some ⟨HT, 51, none⟩), .pointer (some p), .int .u64 386]) w := by kernel_rfl
theorem elemV_N (a p : Addr) (W : World) (ha : W.cell? a = some (.pointer (some p))) :
    (ReflectliteValue.method (ReflectliteValue.valueError "reflectlite.Value.Elem" 0) ReflectliteValue.elem #[.agg #[.pointer (some ⟨HT, 105, none⟩), .pointer (some a), .int .u64 150]]).run Tryd.prog W
      = .ok (.agg #[.pointer (some ⟨HT, 51, none⟩), .pointer (some p), .int .u64 386]) W := by
  rw [rlm]
  simp only [Sem.run_bind, parts_N, Result.andThen]
  simp [ReflectliteValue.elem, loadVar, isAgg, underlying, Tryd.underlying105, ha, Result.andThen, elemOf_N, mk_N]
theorem partsA_N (a : Addr) (w : World) : (ReflectliteValue.parts (.agg #[.pointer (some ⟨HT, 51, none⟩), .pointer (some a), .int .u64 386])).run Tryd.prog w = .ok (some (51, a, 386)) w := by kernel_rfl
theorem partsB_N (a : Addr) (w : World) : (ReflectliteValue.parts (.agg #[.pointer (some ⟨HT, 51, none⟩), .pointer (some a), .int .u64 130])).run Tryd.prog w = .ok (some (51, a, 130)) w := by kernel_rfl
theorem direct_N (w : World) : (Rtype.directlyAssignable 51 51).run Tryd.prog w = .ok true w := by kernel_rfl
theorem set_N (ta b : Addr) (old n : Int) (W : World) (hb : W.cell? b = some ((.int .i64 n))) (ht : W.cell? ta = some ((.int .i64 old))) (hf : W.frozen? ta = false) :
    (ReflectliteValue.set #[.agg #[.pointer (some ⟨HT, 51, none⟩), .pointer (some ta), .int .u64 386], .agg #[.pointer (some ⟨HT, 51, none⟩), .pointer (some b), .int .u64 130]]).run Tryd.prog W
      = .ok (.tuple #[]) (W.setCell ta ((.int .i64 n))) := by
  rw [rls]
  simp only [Sem.run_bind, partsA_N, partsB_N, Result.andThen]
  simp [ReflectliteValue.flagAddr, loadVar, isAgg, underlying, Tryd.underlying51, hb, Result.andThen, direct_N, storeVar, Value.cells, storeCells, Addr.add]
  rw [run_store Tryd.prog W ta _ _ (by rfl)]
  simp [ht, hf]
theorem typeOf_F (v : Value) (w : World) : (ReflectliteType.typeOf #[.iface 106 v]).run Tryd.prog w = .ok (.iface TRt (.agg #[.pointer (some ⟨HT, 106, none⟩)])) w := by kernel_rfl
theorem typeOf_N (v : Value) (w : World) : (ReflectliteType.typeOf #[.iface 51 v]).run Tryd.prog w = .ok (.iface TRt (.agg #[.pointer (some ⟨HT, 51, none⟩)])) w := by kernel_rfl
theorem assign_FF (w : World) : (ReflectliteType.relation "AssignableTo" ReflectliteType.assignableTo #[.agg #[.pointer (some ⟨HT, 106, none⟩)], .iface TRt (.agg #[.pointer (some ⟨HT, 106, none⟩)])]).run Tryd.prog w = .ok (.bool true) w := by kernel_rfl
theorem assign_FN (w : World) : (ReflectliteType.relation "AssignableTo" ReflectliteType.assignableTo #[.agg #[.pointer (some ⟨HT, 106, none⟩)], .iface TRt (.agg #[.pointer (some ⟨HT, 51, none⟩)])]).run Tryd.prog w = .ok (.bool false) w := by kernel_rfl
theorem assign_NN (w : World) : (ReflectliteType.relation "AssignableTo" ReflectliteType.assignableTo #[.agg #[.pointer (some ⟨HT, 51, none⟩)], .iface TRt (.agg #[.pointer (some ⟨HT, 51, none⟩)])]).run Tryd.prog w = .ok (.bool true) w := by kernel_rfl
theorem valueOf_EF (e : Option Addr) (w : World) : (ReflectliteValue.unpack (.iface 106 (.pointer e))).run Tryd.prog w
    = .ok (.agg #[.pointer (some ⟨HT, 106, none⟩), .pointer (some ⟨w.heap.size, 0, none⟩), .int .u64 150]) (w.alloc (.cells #[.pointer e] 106)) := by kernel_rfl
theorem valueOf_EN (n : Int) (w : World) : (ReflectliteValue.unpack (.iface 51 (.int .i64 n))).run Tryd.prog w
    = .ok (.agg #[.pointer (some ⟨HT, 51, none⟩), .pointer (some ⟨w.heap.size, 0, none⟩), .int .u64 130]) (w.alloc (.cells #[.int .i64 n] 51)) := by kernel_rfl
/-- errors.As(nil, target). -/
theorem as_nil (t : Value) (w : World) : Calls Tryd.prog 45 #[.nilIface, t] w fun e w' => e = .returned (.bool false) ∧ w' = w := by
  go_enter Tryd.func45, Tryd.ntmps45
  go_wp2
  go_ret
  exact ⟨rfl, rfl⟩
theorem ta_as (v : Value) (w : World) : (Instr.typeAssert (.iface 106 v) 33 187 true).run Tryd.prog w = .ok (.tuple #[.nilIface, .bool false]) w := run_typeAssert_lacksB Tryd.underlying187 (by kernel_rfl) (by kernel_rfl) v 33 w
theorem ta_unwrap (v : Value) (w : World) : (Instr.typeAssert (.iface 106 v) 33 190 true).run Tryd.prog w = .ok (.tuple #[.iface 106 v, .bool true]) w := by kernel_rfl
theorem methodUnwrap (p : Option Addr) (w : World) : (Go.method 257 106 (.pointer p) "Unwrap").run Tryd.prog w = .ok (163, .pointer p) w := by kernel_rfl
set_option maxRecDepth 100000 in
set_option maxHeartbeats 8000000 in
theorem as_F (e : Addr) (t : Addr) (old : Option Addr) (w : World) (hg : w.cell? ⟨0, 0, none⟩ = some (.iface TRt (.agg #[.pointer (some ⟨HT, 33, none⟩)]))) (ht0 : w.cell? t = some (.pointer old)) (hf0 : w.frozen? t = false) :
    Calls Tryd.prog 45 #[.iface 106 (.pointer (some e)), .iface 107 (.pointer (some t))] w fun ev w' => ev = .returned (.bool true) ∧ w' = ((((w.alloc (.cells #[.pointer (some t)] 107)).alloc (.cells #[.pointer (some ⟨HT, 107, none⟩), .pointer (some ⟨w.heap.size, 0, none⟩), .int .u64 150] TV)).alloc (.cells #[.pointer (some ⟨HT, 107, none⟩), .pointer (some ⟨w.heap.size, 0, none⟩), .int .u64 150] TV)).alloc (.cells #[.pointer (some e)] 106)).setCell t (.pointer (some e)) := by
  have h_73 := @run_callFunc_extern Tryd.prog 73 _ (fun args => ReflectliteValue.unpack (args.getD 0 (.tuple #[]))) Tryd.func73 (by kernel_rfl) (by kernel_rfl) (by kernel_rfl) (by kernel_rfl)
  have h_74 := @run_callFunc_extern Tryd.prog 74 _ (ReflectliteValue.methodAny (ReflectliteValue.valueError "reflectlite.Value.Type" 0) (fun t _ _ _ => ReflectliteType.toType t)) Tryd.func74 (by kernel_rfl) (by kernel_rfl) (by kernel_rfl) (by kernel_rfl)
  have h_75 := @run_callFunc_extern Tryd.prog 75 _ (ReflectliteValue.method (ReflectliteValue.valueError "reflectlite.Value.IsNil" 0) ReflectliteValue.isNil) Tryd.func75 (by kernel_rfl) (by kernel_rfl) (by kernel_rfl) (by kernel_rfl)
  have h_kind := @run_callFunc_extern Tryd.prog 157 _ (ReflectliteType.abiMethod fun t => do pure (.int .u8 (← Rtype.kind t))) Tryd.func157 (by kernel_rfl) (by kernel_rfl) (by kernel_rfl) (by kernel_rfl)
  have h_elem := @run_callFunc_extern Tryd.prog 170 _ (ReflectliteType.method ReflectliteType.elem) Tryd.func170 (by kernel_rfl) (by kernel_rfl) (by kernel_rfl) (by kernel_rfl)
  have h_impl := @run_callFunc_extern Tryd.prog 171 _ (ReflectliteType.relation "Implements" ReflectliteType.implements_) Tryd.func171 (by kernel_rfl) (by kernel_rfl) (by kernel_rfl) (by kernel_rfl)
  have h_typeof := @run_callFunc_extern Tryd.prog 99 _ ReflectliteType.typeOf Tryd.func99 (by kernel_rfl) (by kernel_rfl) (by kernel_rfl) (by kernel_rfl)
  have h_assign := @run_callFunc_extern Tryd.prog 168 _ (ReflectliteType.relation "AssignableTo" ReflectliteType.assignableTo) Tryd.func168 (by kernel_rfl) (by kernel_rfl) (by kernel_rfl) (by kernel_rfl)
  have h_velem := @run_callFunc_extern Tryd.prog 100 _ (ReflectliteValue.method (ReflectliteValue.valueError "reflectlite.Value.Elem" 0) ReflectliteValue.elem) Tryd.func100 (by kernel_rfl) (by kernel_rfl) (by kernel_rfl) (by kernel_rfl)
  have h_set := @run_callFunc_extern Tryd.prog 101 _ ReflectliteValue.set Tryd.func101 (by kernel_rfl) (by kernel_rfl) (by kernel_rfl) (by kernel_rfl)
  have mA := methodAssignableTo
  have mK := methodKind
  have mE := methodElem
  have mI := methodImplements
  have q1 := valueOf_F
  have q2 := type_F
  have q3 := kind_F
  have q4 := kindE_F
  have q5 := elem_F
  have q6 := implements_F
  have q7 := typeOf_F
  have q8 := typeOf_N
  have q9 := assign_FF
  have q10 := assign_FN
  have q11 := assign_NN
  have q12 := valueOf_EF
  have n8 := isNil_F ⟨w.heap.size, 0, none⟩ t ((w.alloc (.cells #[.pointer (some t)] 107)).alloc (.cells #[.pointer (some ⟨HT, 107, none⟩), .pointer (some ⟨w.heap.size, 0, none⟩), .int .u64 150] TV)) (by simp)
  have hlt : 0 < w.heap.size := World.block_lt_of_cell? w _ hg
  have hg2 : ((w.alloc (.cells #[.pointer (some t)] 107)).alloc (.cells #[.pointer (some ⟨HT, 107, none⟩), .pointer (some ⟨w.heap.size, 0, none⟩), .int .u64 150] TV)).cell? ⟨0, 0, none⟩ = some (.iface TRt (.agg #[.pointer (some ⟨HT, 33, none⟩)])) := by
    rw [World.cell?_alloc_lt _ _ ⟨0, 0, none⟩ (by simp <;> omega), World.cell?_alloc_lt _ _ ⟨0, 0, none⟩ hlt]; exact hg
  have htl : t.block < w.heap.size := World.block_lt_of_cell? w _ ht0
  have el := elemV_F ⟨w.heap.size, 0, none⟩ t (((w.alloc (.cells #[.pointer (some t)] 107)).alloc (.cells #[.pointer (some ⟨HT, 107, none⟩), .pointer (some ⟨w.heap.size, 0, none⟩), .int .u64 150] TV)).alloc (.cells #[.pointer (some ⟨HT, 107, none⟩), .pointer (some ⟨w.heap.size, 0, none⟩), .int .u64 150] TV)) (by rw [World.cell?_alloc_lt _ _ ⟨w.heap.size, 0, none⟩ (by simp; omega)]; simp)
  have st := set_F t ⟨w.heap.size + 1 + 1 + 1, 0, none⟩ old (some e) ((((w.alloc (.cells #[.pointer (some t)] 107)).alloc (.cells #[.pointer (some ⟨HT, 107, none⟩), .pointer (some ⟨w.heap.size, 0, none⟩), .int .u64 150] TV)).alloc (.cells #[.pointer (some ⟨HT, 107, none⟩), .pointer (some ⟨w.heap.size, 0, none⟩), .int .u64 150] TV)).alloc (.cells #[.pointer (some e)] 106))
    (by rw [World.cell?_alloc_at _ _ _ _ (by simp)]; rfl)
    (by rw [World.cell?_alloc_lt _ _ t (by simp; omega), World.cell?_alloc_lt _ _ t (by simp; omega), World.cell?_alloc_lt _ _ t (by simp; omega), World.cell?_alloc_lt _ _ t htl]; exact ht0)
    (by rw [World.frozen?_alloc_old _ _ t (by simp; omega), World.frozen?_alloc_old _ _ t (by simp; omega), World.frozen?_alloc_old _ _ t (by simp; omega), World.frozen?_alloc_old _ _ t (Nat.ne_of_lt htl)]; exact hf0)
  go_enter Tryd.func45, Tryd.ntmps45
  go_wp2
  refine wp_loop_rounds 1 ?_
  rw [rounds_succ]
  go_wp2
  go_ret
  exact ⟨rfl, rfl⟩
set_option maxRecDepth 100000 in
set_option maxHeartbeats 8000000 in
theorem as_N (gF : Nat) (n : Int) (t : Addr) (old : Int) (w : World) (hg : w.cell? ⟨0, 0, none⟩ = some (.iface TRt (.agg #[.pointer (some ⟨HT, 33, none⟩)]))) (ht0 : w.cell? t = some (.int .i64 old)) (hf0 : w.frozen? t = false) (hF : w.cell? ⟨gF, 1, none⟩ = some (.iface 51 (.int .i64 n))) :
    Calls Tryd.prog 45 #[.iface 106 (.pointer (some ⟨gF, 0, none⟩)), .iface 105 (.pointer (some t))] w fun ev w' => ev = .returned (.bool true) ∧ w' = ((((w.alloc (.cells #[.pointer (some t)] 105)).alloc (.cells #[.pointer (some ⟨HT, 105, none⟩), .pointer (some ⟨w.heap.size, 0, none⟩), .int .u64 150] TV)).alloc (.cells #[.pointer (some ⟨HT, 105, none⟩), .pointer (some ⟨w.heap.size, 0, none⟩), .int .u64 150] TV)).alloc (.cells #[.int .i64 n] 51)).setCell t (.int .i64 n) := by
  have h_73 := @run_callFunc_extern Tryd.prog 73 _ (fun args => ReflectliteValue.unpack (args.getD 0 (.tuple #[]))) Tryd.func73 (by kernel_rfl) (by kernel_rfl) (by kernel_rfl) (by kernel_rfl)
  have h_74 := @run_callFunc_extern Tryd.prog 74 _ (ReflectliteValue.methodAny (ReflectliteValue.valueError "reflectlite.Value.Type" 0) (fun t _ _ _ => ReflectliteType.toType t)) Tryd.func74 (by kernel_rfl) (by kernel_rfl) (by kernel_rfl) (by kernel_rfl)
  have h_75 := @run_callFunc_extern Tryd.prog 75 _ (ReflectliteValue.method (ReflectliteValue.valueError "reflectlite.Value.IsNil" 0) ReflectliteValue.isNil) Tryd.func75 (by kernel_rfl) (by kernel_rfl) (by kernel_rfl) (by kernel_rfl)
  have h_kind := @run_callFunc_extern Tryd.prog 157 _ (ReflectliteType.abiMethod fun t => do pure (.int .u8 (← Rtype.kind t))) Tryd.func157 (by kernel_rfl) (by kernel_rfl) (by kernel_rfl) (by kernel_rfl)
  have h_elem := @run_callFunc_extern Tryd.prog 170 _ (ReflectliteType.method ReflectliteType.elem) Tryd.func170 (by kernel_rfl) (by kernel_rfl) (by kernel_rfl) (by kernel_rfl)
  have h_impl := @run_callFunc_extern Tryd.prog 171 _ (ReflectliteType.relation "Implements" ReflectliteType.implements_) Tryd.func171 (by kernel_rfl) (by kernel_rfl) (by kernel_rfl) (by kernel_rfl)
  have h_typeof := @run_callFunc_extern Tryd.prog 99 _ ReflectliteType.typeOf Tryd.func99 (by kernel_rfl) (by kernel_rfl) (by kernel_rfl) (by kernel_rfl)
  have h_assign := @run_callFunc_extern Tryd.prog 168 _ (ReflectliteType.relation "AssignableTo" ReflectliteType.assignableTo) Tryd.func168 (by kernel_rfl) (by kernel_rfl) (by kernel_rfl) (by kernel_rfl)
  have h_velem := @run_callFunc_extern Tryd.prog 100 _ (ReflectliteValue.method (ReflectliteValue.valueError "reflectlite.Value.Elem" 0) ReflectliteValue.elem) Tryd.func100 (by kernel_rfl) (by kernel_rfl) (by kernel_rfl) (by kernel_rfl)
  have h_set := @run_callFunc_extern Tryd.prog 101 _ ReflectliteValue.set Tryd.func101 (by kernel_rfl) (by kernel_rfl) (by kernel_rfl) (by kernel_rfl)
  have mA := methodAssignableTo
  have mK := methodKind
  have mE := methodElem
  have mI := methodImplements
  have q1 := valueOf_N
  have q2 := type_N
  have q3 := kind_N
  have q4 := kindE_N
  have q5 := elem_N
  have q6 := implements_N
  have q7 := typeOf_F
  have q8 := typeOf_N
  have q9 := assign_FF
  have q10 := assign_FN
  have q11 := assign_NN
  have q12 := valueOf_EN
  have n8 := isNil_N ⟨w.heap.size, 0, none⟩ t ((w.alloc (.cells #[.pointer (some t)] 105)).alloc (.cells #[.pointer (some ⟨HT, 105, none⟩), .pointer (some ⟨w.heap.size, 0, none⟩), .int .u64 150] TV)) (by simp)
  have hlt : 0 < w.heap.size := World.block_lt_of_cell? w _ hg
  have hg2 : ((w.alloc (.cells #[.pointer (some t)] 105)).alloc (.cells #[.pointer (some ⟨HT, 105, none⟩), .pointer (some ⟨w.heap.size, 0, none⟩), .int .u64 150] TV)).cell? ⟨0, 0, none⟩ = some (.iface TRt (.agg #[.pointer (some ⟨HT, 33, none⟩)])) := by
    rw [World.cell?_alloc_lt _ _ ⟨0, 0, none⟩ (by simp <;> omega), World.cell?_alloc_lt _ _ ⟨0, 0, none⟩ hlt]; exact hg
  have htl : t.block < w.heap.size := World.block_lt_of_cell? w _ ht0
  have el := elemV_N ⟨w.heap.size, 0, none⟩ t (((w.alloc (.cells #[.pointer (some t)] 105)).alloc (.cells #[.pointer (some ⟨HT, 105, none⟩), .pointer (some ⟨w.heap.size, 0, none⟩), .int .u64 150] TV)).alloc (.cells #[.pointer (some ⟨HT, 105, none⟩), .pointer (some ⟨w.heap.size, 0, none⟩), .int .u64 150] TV)) (by rw [World.cell?_alloc_lt _ _ ⟨w.heap.size, 0, none⟩ (by simp; omega)]; simp)
  have st := set_N t ⟨w.heap.size + 1 + 1 + 1, 0, none⟩ old n ((((w.alloc (.cells #[.pointer (some t)] 105)).alloc (.cells #[.pointer (some ⟨HT, 105, none⟩), .pointer (some ⟨w.heap.size, 0, none⟩), .int .u64 150] TV)).alloc (.cells #[.pointer (some ⟨HT, 105, none⟩), .pointer (some ⟨w.heap.size, 0, none⟩), .int .u64 150] TV)).alloc (.cells #[.int .i64 n] 51))
    (by rw [World.cell?_alloc_at _ _ _ _ (by simp)]; rfl)
    (by rw [World.cell?_alloc_lt _ _ t (by simp; omega), World.cell?_alloc_lt _ _ t (by simp; omega), World.cell?_alloc_lt _ _ t (by simp; omega), World.cell?_alloc_lt _ _ t htl]; exact ht0)
    (by rw [World.frozen?_alloc_old _ _ t (by simp; omega), World.frozen?_alloc_old _ _ t (by simp; omega), World.frozen?_alloc_old _ _ t (by simp; omega), World.frozen?_alloc_old _ _ t (Nat.ne_of_lt htl)]; exact hf0)
  have hgF : gF < w.heap.size := World.block_lt_of_cell? w _ hF
  have u1 := ta_as
  have u2 := ta_unwrap
  have u3 := methodUnwrap
  have hF3 : (((w.alloc (.cells #[.pointer (some t)] 105)).alloc (.cells #[.pointer (some ⟨HT, 105, none⟩), .pointer (some ⟨w.heap.size, 0, none⟩), .int .u64 150] TV)).alloc (.cells #[.pointer (some ⟨HT, 105, none⟩), .pointer (some ⟨w.heap.size, 0, none⟩), .int .u64 150] TV)).cell? ⟨gF, 1, none⟩ = some (.iface 51 (.int .i64 n)) := by
    rw [World.cell?_alloc_lt _ _ ⟨gF, 1, none⟩ (by simp; omega), World.cell?_alloc_lt _ _ ⟨gF, 1, none⟩ (by simp; omega), World.cell?_alloc_lt _ _ ⟨gF, 1, none⟩ hgF]; exact hF
  go_enter Tryd.func45, Tryd.ntmps45
  go_wp2
  refine wp_loop_rounds 2 ?_
  rw [rounds_succ]
  go_wp2
  rw [rounds_succ]
  go_wp2
  go_ret
  exact ⟨rfl, rfl⟩
end Go.Proofs.YtcdgjgoplogiiaaDoor.PT
