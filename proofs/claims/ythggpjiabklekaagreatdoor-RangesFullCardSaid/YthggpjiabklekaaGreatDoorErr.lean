/- Errors of the program: a *api.Fault around a sentinel. errors.As and errors.Is at such, by Go's own text (after the guide's worked examples Toyas and Sentry). -/
import Derived.Test.YthggpjiabklekaaGreatDoorProg
import Derived.WalkKit
import Derived.LaidEql
import Derived.Stop.Asserts
import Derived.RowKitTokens
import Derived.LaidEqlPtr
namespace Go.Proofs.YthggpjiabklekaaGreatDoor
open Go.RowKit Go.Extern.Stop Go.Stop Go.Extern

theorem as_nil (t : Value) (w : World) : Calls Tryz.prog 37 #[.nilIface, t] w fun e w' => e = .returned (.bool false) ∧ w' = w := by
  go_enter Tryz.func37, Tryz.ntmps37
  go_wp2
  go_ret
  exact ⟨rfl, rfl⟩
theorem E.valueOfPP (t : Addr) (w : World) : (ReflectliteValue.unpack (.iface 72 (.pointer (some t)))).run Tryz.prog w
    = .ok (.agg #[.pointer (some ⟨28, 72, none⟩), .pointer (some ⟨w.heap.size, 0, none⟩), .int .u64 150]) (w.alloc (.cells #[.pointer (some t)] 72)) := by kernel_rfl
theorem E.typePP (a : Addr) (w : World) : (ReflectliteValue.methodAny (ReflectliteValue.valueError "reflectlite.Value.Type" 0) (fun t _ _ _ => ReflectliteType.toType t) #[.agg #[.pointer (some ⟨28, 72, none⟩), .pointer (some a), .int .u64 150]]).run Tryz.prog w
    = .ok (.iface 118 (.agg #[.pointer (some ⟨28, 72, none⟩)])) w := by kernel_rfl
theorem E.methodKind (h : Value) (w : World) : (Go.method 331 118 (.agg #[h]) "Kind").run Tryz.prog w = .ok (158, h) w := by kernel_rfl
theorem E.kindPP (w : World) : ((ReflectliteType.abiMethod fun t => (fun a : Nat => Value.int IntKind.u8 (a : Int)) <$> Rtype.kind t) #[.pointer (some ⟨28, 72, none⟩)]).run Tryz.prog w = .ok (.int .u8 22) w := by kernel_rfl
theorem E.kindP (w : World) : ((ReflectliteType.abiMethod fun t => (fun a : Nat => Value.int IntKind.u8 (a : Int)) <$> Rtype.kind t) #[.pointer (some ⟨28, 70, none⟩)]).run Tryz.prog w = .ok (.int .u8 22) w := by kernel_rfl
theorem rlm (z : Sem Value) (f : TypeId → Addr → Nat → Nat → Sem Value) (v : Value) :
    ReflectliteValue.method z f #[v] = (do match ← ReflectliteValue.parts v with | none => z | some (t, a, fl) => f t a fl (fl % 32)) := rfl
theorem E.partsPP (a : Addr) (w : World) : (ReflectliteValue.parts (.agg #[.pointer (some ⟨28, 72, none⟩), .pointer (some a), .int .u64 150])).run Tryz.prog w = .ok (some (72, a, 150)) w := by kernel_rfl
theorem E.isNilPP (a p : Addr) (W : World) (ha : W.cell? a = some (.pointer (some p))) :
    (ReflectliteValue.method (ReflectliteValue.valueError "reflectlite.Value.IsNil" 0) ReflectliteValue.isNil #[.agg #[.pointer (some ⟨28, 72, none⟩), .pointer (some a), .int .u64 150]]).run Tryz.prog W = .ok (.bool false) W := by
  rw [rlm]
  simp only [Sem.run_bind, E.partsPP, Result.andThen]
  simp [ReflectliteValue.isNil, loadVar, isAgg, underlying, Tryz.underlying72, ha, Result.andThen]
theorem E.methodElem (h : Value) (w : World) : (Go.method 331 118 (.agg #[h]) "Elem").run Tryz.prog w = .ok (170, .agg #[h]) w := by kernel_rfl
theorem E.methodImplements (h : Value) (w : World) : (Go.method 331 118 (.agg #[h]) "Implements").run Tryz.prog w = .ok (171, .agg #[h]) w := by kernel_rfl
theorem E.methodAssignableTo (h : Value) (w : World) : (Go.method 331 118 (.agg #[h]) "AssignableTo").run Tryz.prog w = .ok (168, .agg #[h]) w := by kernel_rfl
theorem E.elemPP (w : World) : (ReflectliteType.method ReflectliteType.elem #[.agg #[.pointer (some ⟨28, 72, none⟩)]]).run Tryz.prog w = .ok (.iface 118 (.agg #[.pointer (some ⟨28, 70, none⟩)])) w := by kernel_rfl
theorem E.implementsP (w : World) : (ReflectliteType.relation "Implements" ReflectliteType.implements_ #[.agg #[.pointer (some ⟨28, 70, none⟩)], .iface 118 (.agg #[.pointer (some ⟨28, 34, none⟩)])]).run Tryz.prog w = .ok (.bool true) w := by kernel_rfl
theorem E.typeOfP (v : Value) (w : World) : (ReflectliteType.typeOf #[.iface 70 v]).run Tryz.prog w = .ok (.iface 118 (.agg #[.pointer (some ⟨28, 70, none⟩)])) w := by kernel_rfl
theorem E.assignableP (w : World) : (ReflectliteType.relation "AssignableTo" ReflectliteType.assignableTo #[.agg #[.pointer (some ⟨28, 70, none⟩)], .iface 118 (.agg #[.pointer (some ⟨28, 70, none⟩)])]).run Tryz.prog w = .ok (.bool true) w := by kernel_rfl
theorem E.valueOfP (e : Addr) (w : World) : (ReflectliteValue.unpack (.iface 70 (.pointer (some e)))).run Tryz.prog w
    = .ok (.agg #[.pointer (some ⟨28, 70, none⟩), .pointer (some ⟨w.heap.size, 0, none⟩), .int .u64 150]) (w.alloc (.cells #[.pointer (some e)] 70)) := by kernel_rfl
theorem E.elemOfPP (w : World) : (Rtype.elem? 72).run Tryz.prog w = .ok (some 70) w := by kernel_rfl
theorem E.mkP (p : Addr) (w : World) : (ReflectliteValue.mk 70 p ReflectliteValue.flagAddr).run Tryz.prog w = .ok (.agg #[.pointer (some ⟨28, 70, none⟩), .pointer (some p), .int .u64 406]) w := by kernel_rfl
theorem E.elemVPP (a p : Addr) (W : World) (ha : W.cell? a = some (.pointer (some p))) :
    (ReflectliteValue.method (ReflectliteValue.valueError "reflectlite.Value.Elem" 0) ReflectliteValue.elem #[.agg #[.pointer (some ⟨28, 72, none⟩), .pointer (some a), .int .u64 150]]).run Tryz.prog W
      = .ok (.agg #[.pointer (some ⟨28, 70, none⟩), .pointer (some p), .int .u64 406]) W := by
  rw [rlm]
  simp only [Sem.run_bind, E.partsPP, Result.andThen]
  simp [ReflectliteValue.elem, loadVar, isAgg, underlying, Tryz.underlying72, ha, Result.andThen, E.elemOfPP, E.mkP]
theorem rls (v x : Value) : ReflectliteValue.set #[v, x] = (do
    let (some (dst, a, fl), some (src, b, _)) := (← ReflectliteValue.parts v, ← ReflectliteValue.parts x)
      | unsupported (.noEntry "extern/(internal/reflectlite.Value).Set.zeroValue")
    if fl / ReflectliteValue.flagAddr % 2 == 0 then unsupported (.noEntry "extern/(internal/reflectlite.Value).Set.unaddressable")
    let val ← loadVar src b
    if ← Rtype.directlyAssignable dst src then storeVar dst a val
    else if ← Rtype.implements dst src then
      if (← Rtype.kind src) == 20 then
        match val with
        | .nilIface => unsupported (.noEntry "extern/reflectlite: a nil value of one interface type handed on as a value of another")
        | _ => storeVar dst a val
      else storeVar dst a (.iface src val)
    else panicString ("reflectlite.Set: value of type " ++ (← Rtype.spelt src) ++ " is not assignable to type " ++ (← Rtype.spelt dst))
    pure (.tuple #[])) := rfl
theorem E.partsPa (a : Addr) (w : World) : (ReflectliteValue.parts (.agg #[.pointer (some ⟨28, 70, none⟩), .pointer (some a), .int .u64 406])).run Tryz.prog w = .ok (some (70, a, 406)) w := by kernel_rfl
theorem E.partsP (a : Addr) (w : World) : (ReflectliteValue.parts (.agg #[.pointer (some ⟨28, 70, none⟩), .pointer (some a), .int .u64 150])).run Tryz.prog w = .ok (some (70, a, 150)) w := by kernel_rfl
theorem E.directP (w : World) : (Rtype.directlyAssignable 70 70).run Tryz.prog w = .ok true w := by kernel_rfl
theorem E.setP (ta b e : Addr) (old : Value) (W : World) (hb : W.cell? b = some (.pointer (some e))) (ht : W.cell? ta = some old) (hf : W.frozen? ta = false) :
    (ReflectliteValue.set #[.agg #[.pointer (some ⟨28, 70, none⟩), .pointer (some ta), .int .u64 406], .agg #[.pointer (some ⟨28, 70, none⟩), .pointer (some b), .int .u64 150]]).run Tryz.prog W
      = .ok (.tuple #[]) (W.setCell ta (.pointer (some e))) := by
  rw [rls]
  simp only [Sem.run_bind, E.partsPa, E.partsP, Result.andThen]
  simp [ReflectliteValue.flagAddr, loadVar, isAgg, underlying, Tryz.underlying70, hb, Result.andThen, E.directP, storeVar, Value.cells, storeCells, Addr.add]
  rw [run_store Tryz.prog W ta _ _ (by rfl)]
  simp [ht, hf]

set_option maxHeartbeats 4000000 in
theorem as_hit (e t : Addr) (old : Value) (w : World) (hg : w.cell? ⟨5, 0, none⟩ = some (.iface 118 (.agg #[.pointer (some ⟨28, 34, none⟩)]))) (ht0 : w.cell? t = some old) (hf0 : w.frozen? t = false) :
    Calls Tryz.prog 37 #[.iface 70 (.pointer (some e)), .iface 72 (.pointer (some t))] w fun ev w' => ev = .returned (.bool true) ∧ w' = ((((w.alloc (.cells #[.pointer (some t)] 72)).alloc (.cells #[.pointer (some ⟨28, 72, none⟩), .pointer (some ⟨w.heap.size, 0, none⟩), .int .u64 150] 96)).alloc (.cells #[.pointer (some ⟨28, 72, none⟩), .pointer (some ⟨w.heap.size, 0, none⟩), .int .u64 150] 96)).alloc (.cells #[.pointer (some e)] 70)).setCell t (.pointer (some e)) := by
  have h6 := @run_callFunc_extern Tryz.prog 58 _ (fun args => ReflectliteValue.unpack (args.getD 0 (.tuple #[]))) Tryz.func58 (by kernel_rfl) (by kernel_rfl) (by kernel_rfl) (by kernel_rfl)
  have h7 := @run_callFunc_extern Tryz.prog 59 _ (ReflectliteValue.methodAny (ReflectliteValue.valueError "reflectlite.Value.Type" 0) (fun t _ _ _ => ReflectliteType.toType t)) Tryz.func59 (by kernel_rfl) (by kernel_rfl) (by kernel_rfl) (by kernel_rfl)
  have h8 := @run_callFunc_extern Tryz.prog 60 _ (ReflectliteValue.method (ReflectliteValue.valueError "reflectlite.Value.IsNil" 0) ReflectliteValue.isNil) Tryz.func60 (by kernel_rfl) (by kernel_rfl) (by kernel_rfl) (by kernel_rfl)
  have h27 := @run_callFunc_extern Tryz.prog 158 _ (ReflectliteType.abiMethod fun t => do pure (.int .u8 (← Rtype.kind t))) Tryz.func158 (by kernel_rfl) (by kernel_rfl) (by kernel_rfl) (by kernel_rfl)
  have h37 := @run_callFunc_extern Tryz.prog 170 _ (ReflectliteType.method ReflectliteType.elem) Tryz.func170 (by kernel_rfl) (by kernel_rfl) (by kernel_rfl) (by kernel_rfl)
  have h38 := @run_callFunc_extern Tryz.prog 171 _ (ReflectliteType.relation "Implements" ReflectliteType.implements_) Tryz.func171 (by kernel_rfl) (by kernel_rfl) (by kernel_rfl) (by kernel_rfl)
  have h10 := @run_callFunc_extern Tryz.prog 62 _ ReflectliteType.typeOf Tryz.func62 (by kernel_rfl) (by kernel_rfl) (by kernel_rfl) (by kernel_rfl)
  have h35 := @run_callFunc_extern Tryz.prog 168 _ (ReflectliteType.relation "AssignableTo" ReflectliteType.assignableTo) Tryz.func168 (by kernel_rfl) (by kernel_rfl) (by kernel_rfl) (by kernel_rfl)
  have h11 := @run_callFunc_extern Tryz.prog 80 _ (ReflectliteValue.method (ReflectliteValue.valueError "reflectlite.Value.Elem" 0) ReflectliteValue.elem) Tryz.func80 (by kernel_rfl) (by kernel_rfl) (by kernel_rfl) (by kernel_rfl)
  have h12 := @run_callFunc_extern Tryz.prog 81 _ ReflectliteValue.set Tryz.func81 (by kernel_rfl) (by kernel_rfl) (by kernel_rfl) (by kernel_rfl)
  have tO := E.typeOfP
  have mA := E.methodAssignableTo
  have a25 := E.assignableP
  have v25 := E.valueOfP
  have f6 := E.valueOfPP
  have f7 := E.typePP
  have mK := E.methodKind
  have mE := E.methodElem
  have mI := E.methodImplements
  have k27 := E.kindPP
  have k25 := E.kindP
  have e27 := E.elemPP
  have i25 := E.implementsP
  have n8 := E.isNilPP ⟨w.heap.size, 0, none⟩ t ((w.alloc (.cells #[.pointer (some t)] 72)).alloc (.cells #[.pointer (some ⟨28, 72, none⟩), .pointer (some ⟨w.heap.size, 0, none⟩), .int .u64 150] 96)) (by simp)
  have hlt : 5 < w.heap.size := World.block_lt_of_cell? w _ hg
  have hg2 : ((w.alloc (.cells #[.pointer (some t)] 72)).alloc (.cells #[.pointer (some ⟨28, 72, none⟩), .pointer (some ⟨w.heap.size, 0, none⟩), .int .u64 150] 96)).cell? ⟨5, 0, none⟩ = some (.iface 118 (.agg #[.pointer (some ⟨28, 34, none⟩)])) := by
    rw [World.cell?_alloc_lt _ _ ⟨5, 0, none⟩ (by simp; omega), World.cell?_alloc_lt _ _ ⟨5, 0, none⟩ hlt]; exact hg
  have htl : t.block < w.heap.size := World.block_lt_of_cell? w _ ht0
  have el := E.elemVPP ⟨w.heap.size, 0, none⟩ t (((w.alloc (.cells #[.pointer (some t)] 72)).alloc (.cells #[.pointer (some ⟨28, 72, none⟩), .pointer (some ⟨w.heap.size, 0, none⟩), .int .u64 150] 96)).alloc (.cells #[.pointer (some ⟨28, 72, none⟩), .pointer (some ⟨w.heap.size, 0, none⟩), .int .u64 150] 96)) (by rw [World.cell?_alloc_lt _ _ ⟨w.heap.size, 0, none⟩ (by simp; omega)]; simp)
  have st := E.setP t ⟨w.heap.size + 1 + 1 + 1, 0, none⟩ e old ((((w.alloc (.cells #[.pointer (some t)] 72)).alloc (.cells #[.pointer (some ⟨28, 72, none⟩), .pointer (some ⟨w.heap.size, 0, none⟩), .int .u64 150] 96)).alloc (.cells #[.pointer (some ⟨28, 72, none⟩), .pointer (some ⟨w.heap.size, 0, none⟩), .int .u64 150] 96)).alloc (.cells #[.pointer (some e)] 70))
    (by rw [World.cell?_alloc_at _ _ _ _ (by simp)]; rfl)
    (by rw [World.cell?_alloc_lt _ _ t (by simp; omega), World.cell?_alloc_lt _ _ t (by simp; omega), World.cell?_alloc_lt _ _ t (by simp; omega), World.cell?_alloc_lt _ _ t htl]; exact ht0)
    (by rw [World.frozen?_alloc_old _ _ t (by simp; omega), World.frozen?_alloc_old _ _ t (by simp; omega), World.frozen?_alloc_old _ _ t (by simp; omega), World.frozen?_alloc_old _ _ t (Nat.ne_of_lt htl)]; exact hf0)
  go_enter Tryz.func37, Tryz.ntmps37
  go_wp2
  refine wp_loop_rounds 1 ?_
  rw [rounds_succ]
  go_wp2
  go_ret
  exact ⟨rfl, rfl⟩

/-! ### errors.Is -/
theorem E.isTypeOf (v : Value) (w : World) : (Extern.ReflectliteType.typeOf #[.iface 189 v]).run Tryz.prog w = .ok (.iface 118 (.agg #[.pointer (some ⟨28, 189, none⟩)])) w := by kernel_rfl
/-- What the model does for (rtype).Comparable. -/
def E.cmpF : Array Value → Sem Value := ReflectliteType.method fun t => do Rtype.noPackHeld "Comparable" t; pure (.bool (← typeInfo t).comparable)
theorem E.isComparable (w : World) : (E.cmpF #[.agg #[.pointer (some ⟨28, 189, none⟩)]]).run Tryz.prog w = .ok (.bool true) w := by kernel_rfl
theorem E.isMethodComparable (v : Value) (w : World) : (Go.method 331 118 v "Comparable").run Tryz.prog w = .ok (169, v) w := by kernel_rfl
theorem E.isComp : (Tryz.prog.info? 189).map (·.comparable) = some true := by kernel_rfl
theorem E.isSize : (Tryz.prog.info? 191).map (·.size) = some 1 := by kernel_rfl
theorem E.noIsE (v : Value) (xT : TypeId) (w : World) : (Instr.typeAssert (.iface 189 v) xT 130 true).run Tryz.prog w = .ok (.tuple #[.nilIface, .bool false]) w := run_typeAssert_lacksB Tryz.underlying130 (by kernel_rfl) (by kernel_rfl) v xT w
theorem E.noUnwrapE (v : Value) (xT : TypeId) (w : World) : (Instr.typeAssert (.iface 189 v) xT 125 true).run Tryz.prog w = .ok (.tuple #[.nilIface, .bool false]) w := run_typeAssert_lacksB Tryz.underlying125 (by kernel_rfl) (by kernel_rfl) v xT w
theorem E.noUnwrapsE (v : Value) (xT : TypeId) (w : World) : (Instr.typeAssert (.iface 189 v) xT 127 true).run Tryz.prog w = .ok (.tuple #[.nilIface, .bool false]) w := run_typeAssert_lacksB Tryz.underlying127 (by kernel_rfl) (by kernel_rfl) v xT w
theorem E.noIsW (v : Value) (xT : TypeId) (w : World) : (Instr.typeAssert (.iface 70 v) xT 130 true).run Tryz.prog w = .ok (.tuple #[.nilIface, .bool false]) w := run_typeAssert_lacksB Tryz.underlying130 (by kernel_rfl) (by kernel_rfl) v xT w
theorem E.hasUnwrapW (v : Value) (xT : TypeId) (w : World) : (Instr.typeAssert (.iface 70 v) xT 125 true).run Tryz.prog w = .ok (.tuple #[.iface 70 v, .bool true]) w := run_typeAssert_hasB Tryz.underlying125 (by kernel_rfl) v xT w
theorem E.methodUnwrap (v : Value) (w : World) : (Go.method 331 70 v "Unwrap").run Tryz.prog w = .ok (163, v) w := by kernel_rfl
theorem unwrap_any (g : Nat) (s : Value) (w : World) (h1 : w.cell? ⟨g, 1, none⟩ = some s) :
    Calls Tryz.prog 163 #[.pointer (some ⟨g, 0, none⟩)] w fun e w' => e = .returned s ∧ w' = w := by
  go_enter Tryz.func163, Tryz.ntmps163
  go_wp2
  go_ret
  exact ⟨rfl, rfl⟩
set_option maxHeartbeats 1000000 in
theorem is_wrap_same (g : Nat) (b : Addr) (w : World) (h1 : w.cell? ⟨g, 1, none⟩ = some (.iface 189 (.pointer (some b)))) :
    Calls Tryz.prog 38 #[.iface 70 (.pointer (some ⟨g, 0, none⟩)), .iface 189 (.pointer (some b))] w fun e w' => e = .returned (.bool true) ∧ w' = w := by
  obtain ⟨i, hi, hcmp⟩ := Option.map_eq_some_iff.1 E.isComp
  obtain ⟨j, hj, hjs⟩ := Option.map_eq_some_iff.1 E.isSize
  have h8 := @run_callFunc_extern Tryz.prog 62 _ Extern.ReflectliteType.typeOf Tryz.func62 (by kernel_rfl) (by kernel_rfl) (by kernel_rfl) (by kernel_rfl)
  have h32 := @run_callFunc_extern Tryz.prog 169 _ E.cmpF Tryz.func169 (by kernel_rfl) (by kernel_rfl) (by kernel_rfl) (by kernel_rfl)
  have tT := E.isTypeOf
  have cT := E.isComparable
  have mR := E.isMethodComparable
  have nE := E.noIsE
  have uE := E.noUnwrapE
  have vE := E.noUnwrapsE
  have nW := E.noIsW
  have uW := E.hasUnwrapW
  have mU := E.methodUnwrap
  have heq := run_eql_iface_ptr_same (P := Tryz.prog) w b Tryz.underlying34 Tryz.underlying189 hi hcmp hj
  have hty := run_eql_iface_types (P := Tryz.prog) 70 189 (.pointer (some ⟨g, 0, none⟩)) (.pointer (some b)) Tryz.underlying34 (by decide) w
  go_enter Tryz.func38, Tryz.ntmps38
  go_wp2
  refine wp_loop_rounds 2 ?_
  rw [rounds_succ]
  go_wp2
  rw [rounds_succ]
  go_wp2
  go_ret
  exact ⟨rfl, rfl⟩
set_option maxHeartbeats 1000000 in
theorem is_wrap_other (g : Nat) (b a : Addr) (ca cb : Array Value) (ta tb : TypeId) (w : World) (h1 : w.cell? ⟨g, 1, none⟩ = some (.iface 189 (.pointer (some a)))) (hne : a ≠ b) (ha : w.heap[a.block]? = some (.cells ca ta (0, 0))) (hb : w.heap[b.block]? = some (.cells cb tb (0, 0))) :
    Calls Tryz.prog 38 #[.iface 70 (.pointer (some ⟨g, 0, none⟩)), .iface 189 (.pointer (some b))] w fun e w' => e = .returned (.bool false) ∧ w' = w := by
  obtain ⟨i, hi, hcmp⟩ := Option.map_eq_some_iff.1 E.isComp
  obtain ⟨j, hj, hjs⟩ := Option.map_eq_some_iff.1 E.isSize
  have h8 := @run_callFunc_extern Tryz.prog 62 _ Extern.ReflectliteType.typeOf Tryz.func62 (by kernel_rfl) (by kernel_rfl) (by kernel_rfl) (by kernel_rfl)
  have h32 := @run_callFunc_extern Tryz.prog 169 _ E.cmpF Tryz.func169 (by kernel_rfl) (by kernel_rfl) (by kernel_rfl) (by kernel_rfl)
  have tT := E.isTypeOf
  have cT := E.isComparable
  have mR := E.isMethodComparable
  have nE := E.noIsE
  have uE := E.noUnwrapE
  have vE := E.noUnwrapsE
  have nW := E.noIsW
  have uW := E.hasUnwrapW
  have mU := E.methodUnwrap
  have heq := run_eql_iface_ptr_other (P := Tryz.prog) w Tryz.underlying34 Tryz.underlying189 hi hcmp hj (by rw [hjs]; decide) hne ha hb
  have hty := run_eql_iface_types (P := Tryz.prog) 70 189 (.pointer (some ⟨g, 0, none⟩)) (.pointer (some b)) Tryz.underlying34 (by decide) w
  go_enter Tryz.func38, Tryz.ntmps38
  go_wp2
  refine wp_loop_rounds 2 ?_
  rw [rounds_succ]
  go_wp2
  rw [rounds_succ]
  go_wp2
  go_ret
  exact ⟨rfl, rfl⟩
end Go.Proofs.YthggpjiabklekaaGreatDoor
