/- Errors of the program: a *api.Fault around a sentinel. errors.As and errors.Is at such, by Go's own text (after the guide's worked examples Toyas and Sentry). -/
import Derived.Test.YthdmaajmgbhbmaaDoorProg
import Derived.WalkKit
import Derived.LaidEql
import Derived.Stop.Asserts
import Derived.RowKitTokens
import Derived.LaidEqlPtr
namespace Go.Proofs.YthdmaajmgbhbmaaDoor
open Go.RowKit Go.Extern.Stop Go.Stop Go.Extern

theorem as_nil (t : Value) (w : World) : Calls Tryd.prog 20 #[.nilIface, t] w fun e w' => e = .returned (.bool false) ∧ w' = w := by
  go_enter Tryd.func20, Tryd.ntmps20
  go_wp2
  go_ret
  exact ⟨rfl, rfl⟩
theorem E.valueOfPP (t : Addr) (w : World) : (ReflectliteValue.unpack (.iface 55 (.pointer (some t)))).run Tryd.prog w
    = .ok (.agg #[.pointer (some ⟨22, 55, none⟩), .pointer (some ⟨w.heap.size, 0, none⟩), .int .u64 150]) (w.alloc (.cells #[.pointer (some t)] 55)) := by kernel_rfl
theorem E.typePP (a : Addr) (w : World) : (ReflectliteValue.methodAny (ReflectliteValue.valueError "reflectlite.Value.Type" 0) (fun t _ _ _ => ReflectliteType.toType t) #[.agg #[.pointer (some ⟨22, 55, none⟩), .pointer (some a), .int .u64 150]]).run Tryd.prog w
    = .ok (.iface 84 (.agg #[.pointer (some ⟨22, 55, none⟩)])) w := by kernel_rfl
theorem E.methodKind (h : Value) (w : World) : (Go.method 246 84 (.agg #[h]) "Kind").run Tryd.prog w = .ok (63, h) w := by kernel_rfl
theorem E.kindPP (w : World) : ((ReflectliteType.abiMethod fun t => (fun a : Nat => Value.int IntKind.u8 (a : Int)) <$> Rtype.kind t) #[.pointer (some ⟨22, 55, none⟩)]).run Tryd.prog w = .ok (.int .u8 22) w := by kernel_rfl
theorem E.kindP (w : World) : ((ReflectliteType.abiMethod fun t => (fun a : Nat => Value.int IntKind.u8 (a : Int)) <$> Rtype.kind t) #[.pointer (some ⟨22, 42, none⟩)]).run Tryd.prog w = .ok (.int .u8 22) w := by kernel_rfl
theorem rlm (z : Sem Value) (f : TypeId → Addr → Nat → Nat → Sem Value) (v : Value) :
    ReflectliteValue.method z f #[v] = (do match ← ReflectliteValue.parts v with | none => z | some (t, a, fl) => f t a fl (fl % 32)) := rfl
theorem E.partsPP (a : Addr) (w : World) : (ReflectliteValue.parts (.agg #[.pointer (some ⟨22, 55, none⟩), .pointer (some a), .int .u64 150])).run Tryd.prog w = .ok (some (55, a, 150)) w := by kernel_rfl
theorem E.isNilPP (a p : Addr) (W : World) (ha : W.cell? a = some (.pointer (some p))) :
    (ReflectliteValue.method (ReflectliteValue.valueError "reflectlite.Value.IsNil" 0) ReflectliteValue.isNil #[.agg #[.pointer (some ⟨22, 55, none⟩), .pointer (some a), .int .u64 150]]).run Tryd.prog W = .ok (.bool false) W := by
  rw [rlm]
  simp only [Sem.run_bind, E.partsPP, Result.andThen]
  simp [ReflectliteValue.isNil, loadVar, isAgg, underlying, Tryd.underlying55, ha, Result.andThen]
theorem E.methodElem (h : Value) (w : World) : (Go.method 246 84 (.agg #[h]) "Elem").run Tryd.prog w = .ok (74, .agg #[h]) w := by kernel_rfl
theorem E.methodImplements (h : Value) (w : World) : (Go.method 246 84 (.agg #[h]) "Implements").run Tryd.prog w = .ok (75, .agg #[h]) w := by kernel_rfl
theorem E.methodAssignableTo (h : Value) (w : World) : (Go.method 246 84 (.agg #[h]) "AssignableTo").run Tryd.prog w = .ok (72, .agg #[h]) w := by kernel_rfl
theorem E.elemPP (w : World) : (ReflectliteType.method ReflectliteType.elem #[.agg #[.pointer (some ⟨22, 55, none⟩)]]).run Tryd.prog w = .ok (.iface 84 (.agg #[.pointer (some ⟨22, 42, none⟩)])) w := by kernel_rfl
theorem E.implementsP (w : World) : (ReflectliteType.relation "Implements" ReflectliteType.implements_ #[.agg #[.pointer (some ⟨22, 42, none⟩)], .iface 84 (.agg #[.pointer (some ⟨22, 34, none⟩)])]).run Tryd.prog w = .ok (.bool true) w := by kernel_rfl
theorem E.typeOfP (v : Value) (w : World) : (ReflectliteType.typeOf #[.iface 42 v]).run Tryd.prog w = .ok (.iface 84 (.agg #[.pointer (some ⟨22, 42, none⟩)])) w := by kernel_rfl
theorem E.assignableP (w : World) : (ReflectliteType.relation "AssignableTo" ReflectliteType.assignableTo #[.agg #[.pointer (some ⟨22, 42, none⟩)], .iface 84 (.agg #[.pointer (some ⟨22, 42, none⟩)])]).run Tryd.prog w = .ok (.bool true) w := by kernel_rfl
theorem E.valueOfP (e : Addr) (w : World) : (ReflectliteValue.unpack (.iface 42 (.pointer (some e)))).run Tryd.prog w
    = .ok (.agg #[.pointer (some ⟨22, 42, none⟩), .pointer (some ⟨w.heap.size, 0, none⟩), .int .u64 150]) (w.alloc (.cells #[.pointer (some e)] 42)) := by kernel_rfl
theorem E.elemOfPP (w : World) : (Rtype.elem? 55).run Tryd.prog w = .ok (some 42) w := by kernel_rfl
theorem E.mkP (p : Addr) (w : World) : (ReflectliteValue.mk 42 p ReflectliteValue.flagAddr).run Tryd.prog w = .ok (.agg #[.pointer (some ⟨22, 42, none⟩), .pointer (some p), .int .u64 406]) w := by kernel_rfl
theorem E.elemVPP (a p : Addr) (W : World) (ha : W.cell? a = some (.pointer (some p))) :
    (ReflectliteValue.method (ReflectliteValue.valueError "reflectlite.Value.Elem" 0) ReflectliteValue.elem #[.agg #[.pointer (some ⟨22, 55, none⟩), .pointer (some a), .int .u64 150]]).run Tryd.prog W
      = .ok (.agg #[.pointer (some ⟨22, 42, none⟩), .pointer (some p), .int .u64 406]) W := by
  rw [rlm]
  simp only [Sem.run_bind, E.partsPP, Result.andThen]
  simp [ReflectliteValue.elem, loadVar, isAgg, underlying, Tryd.underlying55, ha, Result.andThen, E.elemOfPP, E.mkP]
theorem rls (v x : Value) : ReflectliteValue.set #[v, x] = (do
    let (some (dst, a, fl), some (src, b, _)) := (← ReflectliteValue.parts v, ← ReflectliteValue.parts x)
      | unsupported (.noEntry "extern/(internal/reflectlite.Value).Set.zeroValue")
    if fl / ReflectliteValue.flagAddr % 2 == 0 then unsupported (.noEntry "extern/(internal/reflectlite.Value).Set.unaddressable")
    let val ← loadVar src b
    if ← Rtype.directlyAssignable dst src then storeVar dst a val
    else if ← Rtype.implements dst src then
      if (← Rtype.kind src) == 20 then
        match val with
        | .nilIface => unsupported (.noEntry "extern/reflectlite: a nil value of one interface type handed on as a value of another")
        | _ => storeVar dst a val
      else storeVar dst a (.iface src val)
    else panicString ("reflectlite.Set: value of type " ++ (← Rtype.spelt src) ++ " is not assignable to type " ++ (← Rtype.spelt dst))
    pure (.tuple #[])) := rfl
theorem E.partsPa (a : Addr) (w : World) : (ReflectliteValue.parts (.agg #[.pointer (some ⟨22, 42, none⟩), .pointer (some a), .int .u64 406])).run Tryd.prog w = .ok (some (42, a, 406)) w := by kernel_rfl
theorem E.partsP (a : Addr) (w : World) : (ReflectliteValue.parts (.agg #[.pointer (some ⟨22, 42, none⟩), .pointer (some a), .int .u64 150])).run Tryd.prog w = .ok (some (42, a, 150)) w := by kernel_rfl
theorem E.directP (w : World) : (Rtype.directlyAssignable 42 42).run Tryd.prog w = .ok true w := by kernel_rfl
theorem E.setP (ta b e : Addr) (old : Value) (W : World) (hb : W.cell? b = some (.pointer (some e))) (ht : W.cell? ta = some old) (hf : W.frozen? ta = false) :
    (ReflectliteValue.set #[.agg #[.pointer (some ⟨22, 42, none⟩), .pointer (some ta), .int .u64 406], .agg #[.pointer (some ⟨22, 42, none⟩), .pointer (some b), .int .u64 150]]).run Tryd.prog W
      = .ok (.tuple #[]) (W.setCell ta (.pointer (some e))) := by
  rw [rls]
  simp only [Sem.run_bind, E.partsPa, E.partsP, Result.andThen]
  simp [ReflectliteValue.flagAddr, loadVar, isAgg, underlying, Tryd.underlying42, hb, Result.andThen, E.directP, storeVar, Value.cells, storeCells, Addr.add]
  rw [run_store Tryd.prog W ta _ _ (by rfl)]
  simp [ht, hf]

set_option maxHeartbeats 4000000 in
theorem as_hit (e t : Addr) (old : Value) (w : World) (hg : w.cell? ⟨4, 0, none⟩ = some (.iface 84 (.agg #[.pointer (some ⟨22, 34, none⟩)]))) (ht0 : w.cell? t = some old) (hf0 : w.frozen? t = false) :
    Calls Tryd.prog 20 #[.iface 42 (.pointer (some e)), .iface 55 (.pointer (some t))] w fun ev w' => ev = .returned (.bool true) ∧ w' = ((((w.alloc (.cells #[.pointer (some t)] 55)).alloc (.cells #[.pointer (some ⟨22, 55, none⟩), .pointer (some ⟨w.heap.size, 0, none⟩), .int .u64 150] 65)).alloc (.cells #[.pointer (some ⟨22, 55, none⟩), .pointer (some ⟨w.heap.size, 0, none⟩), .int .u64 150] 65)).alloc (.cells #[.pointer (some e)] 42)).setCell t (.pointer (some e)) := by
  have h6 := @run_callFunc_extern Tryd.prog 25 _ (fun args => ReflectliteValue.unpack (args.getD 0 (.tuple #[]))) Tryd.func25 (by kernel_rfl) (by kernel_rfl) (by kernel_rfl) (by kernel_rfl)
  have h7 := @run_callFunc_extern Tryd.prog 26 _ (ReflectliteValue.methodAny (ReflectliteValue.valueError "reflectlite.Value.Type" 0) (fun t _ _ _ => ReflectliteType.toType t)) Tryd.func26 (by kernel_rfl) (by kernel_rfl) (by kernel_rfl) (by kernel_rfl)
  have h8 := @run_callFunc_extern Tryd.prog 27 _ (ReflectliteValue.method (ReflectliteValue.valueError "reflectlite.Value.IsNil" 0) ReflectliteValue.isNil) Tryd.func27 (by kernel_rfl) (by kernel_rfl) (by kernel_rfl) (by kernel_rfl)
  have h27 := @run_callFunc_extern Tryd.prog 63 _ (ReflectliteType.abiMethod fun t => do pure (.int .u8 (← Rtype.kind t))) Tryd.func63 (by kernel_rfl) (by kernel_rfl) (by kernel_rfl) (by kernel_rfl)
  have h37 := @run_callFunc_extern Tryd.prog 74 _ (ReflectliteType.method ReflectliteType.elem) Tryd.func74 (by kernel_rfl) (by kernel_rfl) (by kernel_rfl) (by kernel_rfl)
  have h38 := @run_callFunc_extern Tryd.prog 75 _ (ReflectliteType.relation "Implements" ReflectliteType.implements_) Tryd.func75 (by kernel_rfl) (by kernel_rfl) (by kernel_rfl) (by kernel_rfl)
  have h10 := @run_callFunc_extern Tryd.prog 29 _ ReflectliteType.typeOf Tryd.func29 (by kernel_rfl) (by kernel_rfl) (by kernel_rfl) (by kernel_rfl)
  have h35 := @run_callFunc_extern Tryd.prog 72 _ (ReflectliteType.relation "AssignableTo" ReflectliteType.assignableTo) Tryd.func72 (by kernel_rfl) (by kernel_rfl) (by kernel_rfl) (by kernel_rfl)
  have h11 := @run_callFunc_extern Tryd.prog 36 _ (ReflectliteValue.method (ReflectliteValue.valueError "reflectlite.Value.Elem" 0) ReflectliteValue.elem) Tryd.func36 (by kernel_rfl) (by kernel_rfl) (by kernel_rfl) (by kernel_rfl)
  have h12 := @run_callFunc_extern Tryd.prog 37 _ ReflectliteValue.set Tryd.func37 (by kernel_rfl) (by kernel_rfl) (by kernel_rfl) (by kernel_rfl)
  have tO := E.typeOfP
  have mA := E.methodAssignableTo
  have a25 := E.assignableP
  have v25 := E.valueOfP
  have f6 := E.valueOfPP
  have f7 := E.typePP
  have mK := E.methodKind
  have mE := E.methodElem
  have mI := E.methodImplements
  have k27 := E.kindPP
  have k25 := E.kindP
  have e27 := E.elemPP
  have i25 := E.implementsP
  have n8 := E.isNilPP ⟨w.heap.size, 0, none⟩ t ((w.alloc (.cells #[.pointer (some t)] 55)).alloc (.cells #[.pointer (some ⟨22, 55, none⟩), .pointer (some ⟨w.heap.size, 0, none⟩), .int .u64 150] 65)) (by simp)
  have hlt : 4 < w.heap.size := World.block_lt_of_cell? w _ hg
  have hg2 : ((w.alloc (.cells #[.pointer (some t)] 55)).alloc (.cells #[.pointer (some ⟨22, 55, none⟩), .pointer (some ⟨w.heap.size, 0, none⟩), .int .u64 150] 65)).cell? ⟨4, 0, none⟩ = some (.iface 84 (.agg #[.pointer (some ⟨22, 34, none⟩)])) := by
    rw [World.cell?_alloc_lt _ _ ⟨4, 0, none⟩ (by simp; omega), World.cell?_alloc_lt _ _ ⟨4, 0, none⟩ hlt]; exact hg
  have htl : t.block < w.heap.size := World.block_lt_of_cell? w _ ht0
  have el := E.elemVPP ⟨w.heap.size, 0, none⟩ t (((w.alloc (.cells #[.pointer (some t)] 55)).alloc (.cells #[.pointer (some ⟨22, 55, none⟩), .pointer (some ⟨w.heap.size, 0, none⟩), .int .u64 150] 65)).alloc (.cells #[.pointer (some ⟨22, 55, none⟩), .pointer (some ⟨w.heap.size, 0, none⟩), .int .u64 150] 65)) (by rw [World.cell?_alloc_lt _ _ ⟨w.heap.size, 0, none⟩ (by simp; omega)]; simp)
  have st := E.setP t ⟨w.heap.size + 1 + 1 + 1, 0, none⟩ e old ((((w.alloc (.cells #[.pointer (some t)] 55)).alloc (.cells #[.pointer (some ⟨22, 55, none⟩), .pointer (some ⟨w.heap.size, 0, none⟩), .int .u64 150] 65)).alloc (.cells #[.pointer (some ⟨22, 55, none⟩), .pointer (some ⟨w.heap.size, 0, none⟩), .int .u64 150] 65)).alloc (.cells #[.pointer (some e)] 42))
    (by rw [World.cell?_alloc_at _ _ _ _ (by simp)]; rfl)
    (by rw [World.cell?_alloc_lt _ _ t (by simp; omega), World.cell?_alloc_lt _ _ t (by simp; omega), World.cell?_alloc_lt _ _ t (by simp; omega), World.cell?_alloc_lt _ _ t htl]; exact ht0)
    (by rw [World.frozen?_alloc_old _ _ t (by simp; omega), World.frozen?_alloc_old _ _ t (by simp; omega), World.frozen?_alloc_old _ _ t (by simp; omega), World.frozen?_alloc_old _ _ t (Nat.ne_of_lt htl)]; exact hf0)
  go_enter Tryd.func20, Tryd.ntmps20
  go_wp2
  refine wp_loop_rounds 1 ?_
  rw [rounds_succ]
  go_wp2
  go_ret
  exact ⟨rfl, rfl⟩

/-! ### errors.Is -/
theorem E.isTypeOf (v : Value) (w : World) : (Extern.ReflectliteType.typeOf #[.iface 112 v]).run Tryd.prog w = .ok (.iface 84 (.agg #[.pointer (some ⟨22, 112, none⟩)])) w := by kernel_rfl
/-- What the model does for (rtype).Comparable. -/
def E.cmpF : Array Value → Sem Value := ReflectliteType.method fun t => do Rtype.noPackHeld "Comparable" t; pure (.bool (← typeInfo t).comparable)
theorem E.isComparable (w : World) : (E.cmpF #[.agg #[.pointer (some ⟨22, 112, none⟩)]]).run Tryd.prog w = .ok (.bool true) w := by kernel_rfl
theorem E.isMethodComparable (v : Value) (w : World) : (Go.method 246 84 v "Comparable").run Tryd.prog w = .ok (73, v) w := by kernel_rfl
theorem E.isComp : (Tryd.prog.info? 112).map (·.comparable) = some true := by kernel_rfl
theorem E.isSize : (Tryd.prog.info? 134).map (·.size) = some 1 := by kernel_rfl
theorem E.noIsE (v : Value) (xT : TypeId) (w : World) : (Instr.typeAssert (.iface 112 v) xT 96 true).run Tryd.prog w = .ok (.tuple #[.nilIface, .bool false]) w := run_typeAssert_lacksB Tryd.underlying96 (by kernel_rfl) (by kernel_rfl) v xT w
theorem E.noUnwrapE (v : Value) (xT : TypeId) (w : World) : (Instr.typeAssert (.iface 112 v) xT 91 true).run Tryd.prog w = .ok (.tuple #[.nilIface, .bool false]) w := run_typeAssert_lacksB Tryd.underlying91 (by kernel_rfl) (by kernel_rfl) v xT w
theorem E.noUnwrapsE (v : Value) (xT : TypeId) (w : World) : (Instr.typeAssert (.iface 112 v) xT 93 true).run Tryd.prog w = .ok (.tuple #[.nilIface, .bool false]) w := run_typeAssert_lacksB Tryd.underlying93 (by kernel_rfl) (by kernel_rfl) v xT w
theorem E.noIsW (v : Value) (xT : TypeId) (w : World) : (Instr.typeAssert (.iface 42 v) xT 96 true).run Tryd.prog w = .ok (.tuple #[.nilIface, .bool false]) w := run_typeAssert_lacksB Tryd.underlying96 (by kernel_rfl) (by kernel_rfl) v xT w
theorem E.hasUnwrapW (v : Value) (xT : TypeId) (w : World) : (Instr.typeAssert (.iface 42 v) xT 91 true).run Tryd.prog w = .ok (.tuple #[.iface 42 v, .bool true]) w := run_typeAssert_hasB Tryd.underlying91 (by kernel_rfl) v xT w
theorem E.methodUnwrap (v : Value) (w : World) : (Go.method 246 42 v "Unwrap").run Tryd.prog w = .ok (67, v) w := by kernel_rfl
theorem unwrap_any (g : Nat) (s : Value) (w : World) (h1 : w.cell? ⟨g, 1, none⟩ = some s) :
    Calls Tryd.prog 67 #[.pointer (some ⟨g, 0, none⟩)] w fun e w' => e = .returned s ∧ w' = w := by
  go_enter Tryd.func67, Tryd.ntmps67
  go_wp2
  go_ret
  exact ⟨rfl, rfl⟩
set_option maxHeartbeats 1000000 in
theorem is_wrap_same (g : Nat) (b : Addr) (w : World) (h1 : w.cell? ⟨g, 1, none⟩ = some (.iface 112 (.pointer (some b)))) :
    Calls Tryd.prog 21 #[.iface 42 (.pointer (some ⟨g, 0, none⟩)), .iface 112 (.pointer (some b))] w fun e w' => e = .returned (.bool true) ∧ w' = w := by
  obtain ⟨i, hi, hcmp⟩ := Option.map_eq_some_iff.1 E.isComp
  obtain ⟨j, hj, hjs⟩ := Option.map_eq_some_iff.1 E.isSize
  have h8 := @run_callFunc_extern Tryd.prog 29 _ Extern.ReflectliteType.typeOf Tryd.func29 (by kernel_rfl) (by kernel_rfl) (by kernel_rfl) (by kernel_rfl)
  have h32 := @run_callFunc_extern Tryd.prog 73 _ E.cmpF Tryd.func73 (by kernel_rfl) (by kernel_rfl) (by kernel_rfl) (by kernel_rfl)
  have tT := E.isTypeOf
  have cT := E.isComparable
  have mR := E.isMethodComparable
  have nE := E.noIsE
  have uE := E.noUnwrapE
  have vE := E.noUnwrapsE
  have nW := E.noIsW
  have uW := E.hasUnwrapW
  have mU := E.methodUnwrap
  have heq := run_eql_iface_ptr_same (P := Tryd.prog) w b Tryd.underlying34 Tryd.underlying112 hi hcmp hj
  have hty := run_eql_iface_types (P := Tryd.prog) 42 112 (.pointer (some ⟨g, 0, none⟩)) (.pointer (some b)) Tryd.underlying34 (by decide) w
  go_enter Tryd.func21, Tryd.ntmps21
  go_wp2
  refine wp_loop_rounds 2 ?_
  rw [rounds_succ]
  go_wp2
  rw [rounds_succ]
  go_wp2
  go_ret
  exact ⟨rfl, rfl⟩
set_option maxHeartbeats 1000000 in
theorem is_wrap_other (g : Nat) (b a : Addr) (ca cb : Array Value) (ta tb : TypeId) (w : World) (h1 : w.cell? ⟨g, 1, none⟩ = some (.iface 112 (.pointer (some a)))) (hne : a ≠ b) (ha : w.heap[a.block]? = some (.cells ca ta (0, 0))) (hb : w.heap[b.block]? = some (.cells cb tb (0, 0))) :
    Calls Tryd.prog 21 #[.iface 42 (.pointer (some ⟨g, 0, none⟩)), .iface 112 (.pointer (some b))] w fun e w' => e = .returned (.bool false) ∧ w' = w := by
  obtain ⟨i, hi, hcmp⟩ := Option.map_eq_some_iff.1 E.isComp
  obtain ⟨j, hj, hjs⟩ := Option.map_eq_some_iff.1 E.isSize
  have h8 := @run_callFunc_extern Tryd.prog 29 _ Extern.ReflectliteType.typeOf Tryd.func29 (by kernel_rfl) (by kernel_rfl) (by kernel_rfl) (by kernel_rfl)
  have h32 := @run_callFunc_extern Tryd.prog 73 _ E.cmpF Tryd.func73 (by kernel_rfl) (by kernel_rfl) (by kernel_rfl) (by kernel_rfl)
  have tT := E.isTypeOf
  have cT := E.isComparable
  have mR := E.isMethodComparable
  have nE := E.noIsE
  have uE := E.noUnwrapE
  have vE := E.noUnwrapsE
  have nW := E.noIsW
  have uW := E.hasUnwrapW
  have mU := E.methodUnwrap
  have heq := run_eql_iface_ptr_other (P := Tryd.prog) w Tryd.underlying34 Tryd.underlying112 hi hcmp hj (by rw [hjs]; decide) hne ha hb
  have hty := run_eql_iface_types (P := Tryd.prog) 42 112 (.pointer (some ⟨g, 0, none⟩)) (.pointer (some b)) Tryd.underlying34 (by decide) w
  go_enter Tryd.func21, Tryd.ntmps21
  go_wp2
  refine wp_loop_rounds 2 ?_
  rw [rounds_succ]
  go_wp2
  rw [rounds_succ]
  go_wp2
  go_ret
  exact ⟨rfl, rfl⟩
end Go.Proofs.YthdmaajmgbhbmaaDoor
