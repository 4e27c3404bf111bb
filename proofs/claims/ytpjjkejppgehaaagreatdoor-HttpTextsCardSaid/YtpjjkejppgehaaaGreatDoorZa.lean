/- Errors of the program: a *api.Fault around a sentinel. errors.As and errors.Is at such, by Go's own text (after the guide's worked examples Toyas and Sentry). -/
import Derived.Test.YtpjjkejppgehaaaGreatDoorProg
import Derived.WalkKit
import Derived.LaidEql
import Derived.Stop.Asserts
import Derived.RowKitTokens
import Derived.LaidEqlPtr
import Derived.Below
import Derived.WalkLawsBesides
namespace Go.Proofs.YtpjjkejppgehaaaGreatDoor
open Go.RowKit Go.Extern.Stop Go.Stop Go.Extern

theorem as_nil (t : Value) (w : World) : Calls Tryz.prog 22 #[.nilIface, t] w fun e w' => e = .returned (.bool false) ∧ w' = w := by
  go_enter Tryz.func22, Tryz.ntmps22
  go_wp2
  go_ret
  exact ⟨rfl, rfl⟩
theorem E.valueOfPP (t : Addr) (w : World) : (ReflectliteValue.unpack (.iface 56 (.pointer (some t)))).run Tryz.prog w
    = .ok (.agg #[.pointer (some ⟨27, 56, none⟩), .pointer (some ⟨w.heap.size, 0, none⟩), .int .u64 150]) (w.alloc (.cells #[.pointer (some t)] 56)) := by kernel_rfl
theorem E.typePP (a : Addr) (w : World) : (ReflectliteValue.methodAny (ReflectliteValue.valueError "reflectlite.Value.Type" 0) (fun t _ _ _ => ReflectliteType.toType t) #[.agg #[.pointer (some ⟨27, 56, none⟩), .pointer (some a), .int .u64 150]]).run Tryz.prog w
    = .ok (.iface 111 (.agg #[.pointer (some ⟨27, 56, none⟩)])) w := by kernel_rfl
theorem E.methodKind (h : Value) (w : World) : (Go.method 300 111 (.agg #[h]) "Kind").run Tryz.prog w = .ok (123, h) w := by kernel_rfl
theorem E.kindPP (w : World) : ((ReflectliteType.abiMethod fun t => (fun a : Nat => Value.int IntKind.u8 (a : Int)) <$> Rtype.kind t) #[.pointer (some ⟨27, 56, none⟩)]).run Tryz.prog w = .ok (.int .u8 22) w := by kernel_rfl
theorem E.kindP (w : World) : ((ReflectliteType.abiMethod fun t => (fun a : Nat => Value.int IntKind.u8 (a : Int)) <$> Rtype.kind t) #[.pointer (some ⟨27, 54, none⟩)]).run Tryz.prog w = .ok (.int .u8 22) w := by kernel_rfl
theorem rlm (z : Sem Value) (f : TypeId → Addr → Nat → Nat → Sem Value) (v : Value) :
    ReflectliteValue.method z f #[v] = (do match ← ReflectliteValue.parts v with | none => z | some (t, a, fl) => f t a fl (fl % 32)) := rfl
theorem E.partsPP (a : Addr) (w : World) : (ReflectliteValue.parts (.agg #[.pointer (some ⟨27, 56, none⟩), .pointer (some a), .int .u64 150])).run Tryz.prog w = .ok (some (56, a, 150)) w := by kernel_rfl
theorem E.isNilPP (a p : Addr) (W : World) (ha : W.cell? a = some (.pointer (some p))) :
    (ReflectliteValue.method (ReflectliteValue.valueError "reflectlite.Value.IsNil" 0) ReflectliteValue.isNil #[.agg #[.pointer (some ⟨27, 56, none⟩), .pointer (some a), .int .u64 150]]).run Tryz.prog W = .ok (.bool false) W := by
  rw [rlm]
  simp only [Sem.run_bind, E.partsPP, Result.andThen]
  simp [ReflectliteValue.isNil, loadVar, isAgg, underlying, Tryz.underlying56, ha, Result.andThen]
theorem E.methodElem (h : Value) (w : World) : (Go.method 300 111 (.agg #[h]) "Elem").run Tryz.prog w = .ok (135, .agg #[h]) w := by kernel_rfl
theorem E.methodImplements (h : Value) (w : World) : (Go.method 300 111 (.agg #[h]) "Implements").run Tryz.prog w = .ok (136, .agg #[h]) w := by kernel_rfl
theorem E.methodAssignableTo (h : Value) (w : World) : (Go.method 300 111 (.agg #[h]) "AssignableTo").run Tryz.prog w = .ok (133, .agg #[h]) w := by kernel_rfl
theorem E.elemPP (w : World) : (ReflectliteType.method ReflectliteType.elem #[.agg #[.pointer (some ⟨27, 56, none⟩)]]).run Tryz.prog w = .ok (.iface 111 (.agg #[.pointer (some ⟨27, 54, none⟩)])) w := by kernel_rfl
theorem E.implementsP (w : World) : (ReflectliteType.relation "Implements" ReflectliteType.implements_ #[.agg #[.pointer (some ⟨27, 54, none⟩)], .iface 111 (.agg #[.pointer (some ⟨27, 32, none⟩)])]).run Tryz.prog w = .ok (.bool true) w := by kernel_rfl
theorem E.typeOfP (v : Value) (w : World) : (ReflectliteType.typeOf #[.iface 54 v]).run Tryz.prog w = .ok (.iface 111 (.agg #[.pointer (some ⟨27, 54, none⟩)])) w := by kernel_rfl
theorem E.assignableP (w : World) : (ReflectliteType.relation "AssignableTo" ReflectliteType.assignableTo #[.agg #[.pointer (some ⟨27, 54, none⟩)], .iface 111 (.agg #[.pointer (some ⟨27, 54, none⟩)])]).run Tryz.prog w = .ok (.bool true) w := by kernel_rfl
theorem E.valueOfP (e : Addr) (w : World) : (ReflectliteValue.unpack (.iface 54 (.pointer (some e)))).run Tryz.prog w
    = .ok (.agg #[.pointer (some ⟨27, 54, none⟩), .pointer (some ⟨w.heap.size, 0, none⟩), .int .u64 150]) (w.alloc (.cells #[.pointer (some e)] 54)) := by kernel_rfl
theorem E.elemOfPP (w : World) : (Rtype.elem? 56).run Tryz.prog w = .ok (some 54) w := by kernel_rfl
theorem E.mkP (p : Addr) (w : World) : (ReflectliteValue.mk 54 p ReflectliteValue.flagAddr).run Tryz.prog w = .ok (.agg #[.pointer (some ⟨27, 54, none⟩), .pointer (some p), .int .u64 406]) w := by kernel_rfl
theorem E.elemVPP (a p : Addr) (W : World) (ha : W.cell? a = some (.pointer (some p))) :
    (ReflectliteValue.method (ReflectliteValue.valueError "reflectlite.Value.Elem" 0) ReflectliteValue.elem #[.agg #[.pointer (some ⟨27, 56, none⟩), .pointer (some a), .int .u64 150]]).run Tryz.prog W
      = .ok (.agg #[.pointer (some ⟨27, 54, none⟩), .pointer (some p), .int .u64 406]) W := by
  rw [rlm]
  simp only [Sem.run_bind, E.partsPP, Result.andThen]
  simp [ReflectliteValue.elem, loadVar, isAgg, underlying, Tryz.underlying56, ha, Result.andThen, E.elemOfPP, E.mkP]
theorem rls (v x : Value) : ReflectliteValue.set #[v, x] = (do
    let (some (dst, a, fl), some (src, b, _)) := (← ReflectliteValue.parts v, ← ReflectliteValue.parts x)
      | unsupported (.noEntry "extern/(internal/reflectlite.Value).Set.zeroValue")
    if fl / ReflectliteValue.flagAddr % 2 == 0 then unsupported (.noEntry "extern/(internal/reflectlite.Value).Set.unaddressable")
    let val ← loadVar src b
    if ← Rtype.directlyAssignable dst src then storeVar dst a val
    else if ← Rtype.implements dst src then
      if (← Rtype.kind src) == 20 then
        match val with
        | .nilIface => unsupported (.noEntry "extern/reflectlite: a nil value of one interface type handed on as a value of another")
        | _ => storeVar dst a val
      else storeVar dst a (.iface src val)
    else panicString ("reflectlite.Set: value of type " ++ (← Rtype.spelt src) ++ " is not assignable to type " ++ (← Rtype.spelt dst))
    pure (.tuple #[])) := rfl
theorem E.partsPa (a : Addr) (w : World) : (ReflectliteValue.parts (.agg #[.pointer (some ⟨27, 54, none⟩), .pointer (some a), .int .u64 406])).run Tryz.prog w = .ok (some (54, a, 406)) w := by kernel_rfl
theorem E.partsP (a : Addr) (w : World) : (ReflectliteValue.parts (.agg #[.pointer (some ⟨27, 54, none⟩), .pointer (some a), .int .u64 150])).run Tryz.prog w = .ok (some (54, a, 150)) w := by kernel_rfl
theorem E.directP (w : World) : (Rtype.directlyAssignable 54 54).run Tryz.prog w = .ok true w := by kernel_rfl
theorem E.setP (ta b e : Addr) (old : Value) (W : World) (hb : W.cell? b = some (.pointer (some e))) (ht : W.cell? ta = some old) (hf : W.frozen? ta = false) :
    (ReflectliteValue.set #[.agg #[.pointer (some ⟨27, 54, none⟩), .pointer (some ta), .int .u64 406], .agg #[.pointer (some ⟨27, 54, none⟩), .pointer (some b), .int .u64 150]]).run Tryz.prog W
      = .ok (.tuple #[]) (W.setCell ta (.pointer (some e))) := by
  rw [rls]
  simp only [Sem.run_bind, E.partsPa, E.partsP, Result.andThen]
  simp [ReflectliteValue.flagAddr, loadVar, isAgg, underlying, Tryz.underlying54, hb, Result.andThen, E.directP, storeVar, Value.cells, storeCells, Addr.add]
  rw [run_store Tryz.prog W ta _ _ (by rfl)]
  simp [ht, hf]

set_option maxHeartbeats 4000000 in
theorem as_hit (e t : Addr) (old : Value) (w : World) (hg : w.cell? ⟨5, 0, none⟩ = some (.iface 111 (.agg #[.pointer (some ⟨27, 32, none⟩)]))) (ht0 : w.cell? t = some old) (hf0 : w.frozen? t = false) :
    Calls Tryz.prog 22 #[.iface 54 (.pointer (some e)), .iface 56 (.pointer (some t))] w fun ev w' => ev = .returned (.bool true) ∧ w' = ((((w.alloc (.cells #[.pointer (some t)] 56)).alloc (.cells #[.pointer (some ⟨27, 56, none⟩), .pointer (some ⟨w.heap.size, 0, none⟩), .int .u64 150] 86)).alloc (.cells #[.pointer (some ⟨27, 56, none⟩), .pointer (some ⟨w.heap.size, 0, none⟩), .int .u64 150] 86)).alloc (.cells #[.pointer (some e)] 54)).setCell t (.pointer (some e)) := by
  have h6 := @run_callFunc_extern Tryz.prog 43 _ (fun args => ReflectliteValue.unpack (args.getD 0 (.tuple #[]))) Tryz.func43 (by kernel_rfl) (by kernel_rfl) (by kernel_rfl) (by kernel_rfl)
  have h7 := @run_callFunc_extern Tryz.prog 44 _ (ReflectliteValue.methodAny (ReflectliteValue.valueError "reflectlite.Value.Type" 0) (fun t _ _ _ => ReflectliteType.toType t)) Tryz.func44 (by kernel_rfl) (by kernel_rfl) (by kernel_rfl) (by kernel_rfl)
  have h8 := @run_callFunc_extern Tryz.prog 45 _ (ReflectliteValue.method (ReflectliteValue.valueError "reflectlite.Value.IsNil" 0) ReflectliteValue.isNil) Tryz.func45 (by kernel_rfl) (by kernel_rfl) (by kernel_rfl) (by kernel_rfl)
  have h27 := @run_callFunc_extern Tryz.prog 123 _ (ReflectliteType.abiMethod fun t => do pure (.int .u8 (← Rtype.kind t))) Tryz.func123 (by kernel_rfl) (by kernel_rfl) (by kernel_rfl) (by kernel_rfl)
  have h37 := @run_callFunc_extern Tryz.prog 135 _ (ReflectliteType.method ReflectliteType.elem) Tryz.func135 (by kernel_rfl) (by kernel_rfl) (by kernel_rfl) (by kernel_rfl)
  have h38 := @run_callFunc_extern Tryz.prog 136 _ (ReflectliteType.relation "Implements" ReflectliteType.implements_) Tryz.func136 (by kernel_rfl) (by kernel_rfl) (by kernel_rfl) (by kernel_rfl)
  have h10 := @run_callFunc_extern Tryz.prog 47 _ ReflectliteType.typeOf Tryz.func47 (by kernel_rfl) (by kernel_rfl) (by kernel_rfl) (by kernel_rfl)
  have h35 := @run_callFunc_extern Tryz.prog 133 _ (ReflectliteType.relation "AssignableTo" ReflectliteType.assignableTo) Tryz.func133 (by kernel_rfl) (by kernel_rfl) (by kernel_rfl) (by kernel_rfl)
  have h11 := @run_callFunc_extern Tryz.prog 65 _ (ReflectliteValue.method (ReflectliteValue.valueError "reflectlite.Value.Elem" 0) ReflectliteValue.elem) Tryz.func65 (by kernel_rfl) (by kernel_rfl) (by kernel_rfl) (by kernel_rfl)
  have h12 := @run_callFunc_extern Tryz.prog 66 _ ReflectliteValue.set Tryz.func66 (by kernel_rfl) (by kernel_rfl) (by kernel_rfl) (by kernel_rfl)
  have tO := E.typeOfP
  have mA := E.methodAssignableTo
  have a25 := E.assignableP
  have v25 := E.valueOfP
  have f6 := E.valueOfPP
  have f7 := E.typePP
  have mK := E.methodKind
  have mE := E.methodElem
  have mI := E.methodImplements
  have k27 := E.kindPP
  have k25 := E.kindP
  have e27 := E.elemPP
  have i25 := E.implementsP
  have n8 := E.isNilPP ⟨w.heap.size, 0, none⟩ t ((w.alloc (.cells #[.pointer (some t)] 56)).alloc (.cells #[.pointer (some ⟨27, 56, none⟩), .pointer (some ⟨w.heap.size, 0, none⟩), .int .u64 150] 86)) (by simp)
  have hlt : 5 < w.heap.size := World.block_lt_of_cell? w _ hg
  have hg2 : ((w.alloc (.cells #[.pointer (some t)] 56)).alloc (.cells #[.pointer (some ⟨27, 56, none⟩), .pointer (some ⟨w.heap.size, 0, none⟩), .int .u64 150] 86)).cell? ⟨5, 0, none⟩ = some (.iface 111 (.agg #[.pointer (some ⟨27, 32, none⟩)])) := by
    rw [World.cell?_alloc_lt _ _ ⟨5, 0, none⟩ (by simp; omega), World.cell?_alloc_lt _ _ ⟨5, 0, none⟩ hlt]; exact hg
  have htl : t.block < w.heap.size := World.block_lt_of_cell? w _ ht0
  have el := E.elemVPP ⟨w.heap.size, 0, none⟩ t (((w.alloc (.cells #[.pointer (some t)] 56)).alloc (.cells #[.pointer (some ⟨27, 56, none⟩), .pointer (some ⟨w.heap.size, 0, none⟩), .int .u64 150] 86)).alloc (.cells #[.pointer (some ⟨27, 56, none⟩), .pointer (some ⟨w.heap.size, 0, none⟩), .int .u64 150] 86)) (by rw [World.cell?_alloc_lt _ _ ⟨w.heap.size, 0, none⟩ (by simp; omega)]; simp)
  have st := E.setP t ⟨w.heap.size + 1 + 1 + 1, 0, none⟩ e old ((((w.alloc (.cells #[.pointer (some t)] 56)).alloc (.cells #[.pointer (some ⟨27, 56, none⟩), .pointer (some ⟨w.heap.size, 0, none⟩), .int .u64 150] 86)).alloc (.cells #[.pointer (some ⟨27, 56, none⟩), .pointer (some ⟨w.heap.size, 0, none⟩), .int .u64 150] 86)).alloc (.cells #[.pointer (some e)] 54))
    (by rw [World.cell?_alloc_at _ _ _ _ (by simp)]; rfl)
    (by rw [World.cell?_alloc_lt _ _ t (by simp; omega), World.cell?_alloc_lt _ _ t (by simp; omega), World.cell?_alloc_lt _ _ t (by simp; omega), World.cell?_alloc_lt _ _ t htl]; exact ht0)
    (by rw [World.frozen?_alloc_old _ _ t (by simp; omega), World.frozen?_alloc_old _ _ t (by simp; omega), World.frozen?_alloc_old _ _ t (by simp; omega), World.frozen?_alloc_old _ _ t (Nat.ne_of_lt htl)]; exact hf0)
  go_enter Tryz.func22, Tryz.ntmps22
  go_wp2
  refine wp_loop_rounds 1 ?_
  rw [rounds_succ]
  go_wp2
  go_ret
  exact ⟨rfl, rfl⟩

/-! ### errors.Is -/
theorem E.isTypeOf (v : Value) (w : World) : (Extern.ReflectliteType.typeOf #[.iface 167 v]).run Tryz.prog w = .ok (.iface 111 (.agg #[.pointer (some ⟨27, 167, none⟩)])) w := by kernel_rfl
/-- What the model does for (rtype).Comparable. -/
def E.cmpF : Array Value → Sem Value := ReflectliteType.method fun t => do Rtype.noPackHeld "Comparable" t; pure (.bool (← typeInfo t).comparable)
theorem E.isComparable (w : World) : (E.cmpF #[.agg #[.pointer (some ⟨27, 167, none⟩)]]).run Tryz.prog w = .ok (.bool true) w := by kernel_rfl
theorem E.isMethodComparable (v : Value) (w : World) : (Go.method 300 111 v "Comparable").run Tryz.prog w = .ok (134, v) w := by kernel_rfl
theorem E.isComp : (Tryz.prog.info? 167).map (·.comparable) = some true := by kernel_rfl
theorem E.isSize : (Tryz.prog.info? 169).map (·.size) = some 1 := by kernel_rfl
theorem E.noIsE (v : Value) (xT : TypeId) (w : World) : (Instr.typeAssert (.iface 167 v) xT 123 true).run Tryz.prog w = .ok (.tuple #[.nilIface, .bool false]) w := run_typeAssert_lacksB Tryz.underlying123 (by kernel_rfl) (by kernel_rfl) v xT w
theorem E.noUnwrapE (v : Value) (xT : TypeId) (w : World) : (Instr.typeAssert (.iface 167 v) xT 118 true).run Tryz.prog w = .ok (.tuple #[.nilIface, .bool false]) w := run_typeAssert_lacksB Tryz.underlying118 (by kernel_rfl) (by kernel_rfl) v xT w
theorem E.noUnwrapsE (v : Value) (xT : TypeId) (w : World) : (Instr.typeAssert (.iface 167 v) xT 120 true).run Tryz.prog w = .ok (.tuple #[.nilIface, .bool false]) w := run_typeAssert_lacksB Tryz.underlying120 (by kernel_rfl) (by kernel_rfl) v xT w
theorem E.noIsW (v : Value) (xT : TypeId) (w : World) : (Instr.typeAssert (.iface 54 v) xT 123 true).run Tryz.prog w = .ok (.tuple #[.nilIface, .bool false]) w := run_typeAssert_lacksB Tryz.underlying123 (by kernel_rfl) (by kernel_rfl) v xT w
theorem E.hasUnwrapW (v : Value) (xT : TypeId) (w : World) : (Instr.typeAssert (.iface 54 v) xT 118 true).run Tryz.prog w = .ok (.tuple #[.iface 54 v, .bool true]) w := run_typeAssert_hasB Tryz.underlying118 (by kernel_rfl) v xT w
theorem E.methodUnwrap (v : Value) (w : World) : (Go.method 300 54 v "Unwrap").run Tryz.prog w = .ok (128, v) w := by kernel_rfl
theorem unwrap_any (g : Nat) (s : Value) (w : World) (h1 : w.cell? ⟨g, 1, none⟩ = some s) :
    Calls Tryz.prog 128 #[.pointer (some ⟨g, 0, none⟩)] w fun e w' => e = .returned s ∧ w' = w := by
  go_enter Tryz.func128, Tryz.ntmps128
  go_wp2
  go_ret
  exact ⟨rfl, rfl⟩
set_option maxHeartbeats 1000000 in
theorem is_wrap_same (g : Nat) (b : Addr) (w : World) (h1 : w.cell? ⟨g, 1, none⟩ = some (.iface 167 (.pointer (some b)))) :
    Calls Tryz.prog 23 #[.iface 54 (.pointer (some ⟨g, 0, none⟩)), .iface 167 (.pointer (some b))] w fun e w' => e = .returned (.bool true) ∧ w' = w := by
  obtain ⟨i, hi, hcmp⟩ := Option.map_eq_some_iff.1 E.isComp
  obtain ⟨j, hj, hjs⟩ := Option.map_eq_some_iff.1 E.isSize
  have h8 := @run_callFunc_extern Tryz.prog 47 _ Extern.ReflectliteType.typeOf Tryz.func47 (by kernel_rfl) (by kernel_rfl) (by kernel_rfl) (by kernel_rfl)
  have h32 := @run_callFunc_extern Tryz.prog 134 _ E.cmpF Tryz.func134 (by kernel_rfl) (by kernel_rfl) (by kernel_rfl) (by kernel_rfl)
  have tT := E.isTypeOf
  have cT := E.isComparable
  have mR := E.isMethodComparable
  have nE := E.noIsE
  have uE := E.noUnwrapE
  have vE := E.noUnwrapsE
  have nW := E.noIsW
  have uW := E.hasUnwrapW
  have mU := E.methodUnwrap
  have heq := run_eql_iface_ptr_same (P := Tryz.prog) w b Tryz.underlying32 Tryz.underlying167 hi hcmp hj
  have hty := run_eql_iface_types (P := Tryz.prog) 54 167 (.pointer (some ⟨g, 0, none⟩)) (.pointer (some b)) Tryz.underlying32 (by decide) w
  go_enter Tryz.func23, Tryz.ntmps23
  go_wp2
  refine wp_loop_rounds 2 ?_
  rw [rounds_succ]
  go_wp2
  rw [rounds_succ]
  go_wp2
  go_ret
  exact ⟨rfl, rfl⟩
set_option maxHeartbeats 1000000 in
theorem is_wrap_other (g : Nat) (b a : Addr) (ca cb : Array Value) (ta tb : TypeId) (w : World) (h1 : w.cell? ⟨g, 1, none⟩ = some (.iface 167 (.pointer (some a)))) (hne : a ≠ b) (ha : w.heap[a.block]? = some (.cells ca ta (0, 0))) (hb : w.heap[b.block]? = some (.cells cb tb (0, 0))) :
    Calls Tryz.prog 23 #[.iface 54 (.pointer (some ⟨g, 0, none⟩)), .iface 167 (.pointer (some b))] w fun e w' => e = .returned (.bool false) ∧ w' = w := by
  obtain ⟨i, hi, hcmp⟩ := Option.map_eq_some_iff.1 E.isComp
  obtain ⟨j, hj, hjs⟩ := Option.map_eq_some_iff.1 E.isSize
  have h8 := @run_callFunc_extern Tryz.prog 47 _ Extern.ReflectliteType.typeOf Tryz.func47 (by kernel_rfl) (by kernel_rfl) (by kernel_rfl) (by kernel_rfl)
  have h32 := @run_callFunc_extern Tryz.prog 134 _ E.cmpF Tryz.func134 (by kernel_rfl) (by kernel_rfl) (by kernel_rfl) (by kernel_rfl)
  have tT := E.isTypeOf
  have cT := E.isComparable
  have mR := E.isMethodComparable
  have nE := E.noIsE
  have uE := E.noUnwrapE
  have vE := E.noUnwrapsE
  have nW := E.noIsW
  have uW := E.hasUnwrapW
  have mU := E.methodUnwrap
  have heq := run_eql_iface_ptr_other (P := Tryz.prog) w Tryz.underlying32 Tryz.underlying167 hi hcmp hj (by rw [hjs]; decide) hne ha hb
  have hty := run_eql_iface_types (P := Tryz.prog) 54 167 (.pointer (some ⟨g, 0, none⟩)) (.pointer (some b)) Tryz.underlying32 (by decide) w
  go_enter Tryz.func23, Tryz.ntmps23
  go_wp2
  refine wp_loop_rounds 2 ?_
  rw [rounds_succ]
  go_wp2
  rw [rounds_succ]
  go_wp2
  go_ret
  exact ⟨rfl, rfl⟩
end Go.Proofs.YtpjjkejppgehaaaGreatDoor

/- What an error of the program says: none, or a named error at a place; eponymlaw01.Is asks just that. -/
namespace Go.Proofs.YtpjjkejppgehaaaGreatDoor
open Go.RowKit

/-- The variable of a named error. -/
def gidx : Nat → Nat
  | 1 => 4
  | 2 => 6
  | 3 => 3
  | 4 => 0
  | 5 => 2
  | 6 => 7
  | 7 => 8
  | 8 => 9
  | 9 => 10
  | 10 => 11
  | 11 => 12
  | 12 => 13
  | 13 => 14
  | 14 => 15
  | 15 => 16
  | 16 => 17
  | 17 => 18
  | 18 => 1
  | _ => 0
/-- What the calls want of the world in which they begin: the named errors are there, each another one; and so is what errors.As reads. -/
structure IsInv (w : World) : Prop where
  et : w.cell? ⟨5, 0, none⟩ = some (.iface 111 (.agg #[.pointer (some ⟨27, 32, none⟩)]))
  sent : ∀ c, 1 ≤ c → c ≤ 18 → ∃ a : Addr, w.cell? ⟨gidx c, 0, none⟩ = some (.iface 167 (.pointer (some a))) ∧ ∃ cs t, w.heap[a.block]? = some (.cells cs t (0, 0))
  other : ∀ c c' a, 1 ≤ c → c ≤ 18 → 1 ≤ c' → c' ≤ 18 → w.cell? ⟨gidx c, 0, none⟩ = some (.iface 167 (.pointer (some a))) → w.cell? ⟨gidx c', 0, none⟩ = some (.iface 167 (.pointer (some a))) → c = c'
theorem cell_in {w w' : World} (hb : Below w.heap.size w w') {a : Addr} {v : Value} (h : w.cell? a = some v) : w'.cell? a = some v := (hb.cell (World.block_lt_of_cell? w a h)).trans h
theorem heap_lt {w : World} {g : Nat} {o : Obj} (h : w.heap[g]? = some o) : g < w.heap.size := by
  rcases Nat.lt_or_ge g w.heap.size with hlt | hge
  · exact hlt
  · rw [Array.getElem?_eq_none hge] at h; cases h
theorem IsInv.below {w w' : World} (h : IsInv w) (hb : Below w.heap.size w w') : IsInv w' where
  et := cell_in hb h.et
  sent := fun c h1 h2 => by
    obtain ⟨a, hc, cs, t, hh⟩ := h.sent c h1 h2
    exact ⟨a, cell_in hb hc, cs, t, (hb.block _ (heap_lt hh)).trans hh⟩
  other := fun c c' a h1 h2 h3 h4 e e' => by
    obtain ⟨b, hc, _⟩ := h.sent c h1 h2
    obtain ⟨b', hc', _⟩ := h.sent c' h3 h4
    have e2 := (cell_in hb hc).symm.trans e
    have e3 := (cell_in hb hc').symm.trans e'
    exact h.other c c' a h1 h2 h3 h4 (hc.trans e2) (hc'.trans e3)
theorem IsInv.drewN {w : World} (h : IsInv w) (n : Nat) : IsInv (w.drewN n) where
  et := h.et
  sent := h.sent
  other := h.other

/-- What the calls that make errors want: the variables are there, and the named errors that these calls tell. -/
structure ErrInv (w : World) : Prop where
  lo : 18 < w.heap.size
  sent : ∀ c, c ∈ ([1, 2, 4] : List Nat) → ∃ a : Addr, w.cell? ⟨gidx c, 0, none⟩ = some (.iface 167 (.pointer (some a))) ∧ ∃ cs t, w.heap[a.block]? = some (.cells cs t (0, 0))
theorem ErrInv.below {w w' : World} (h : ErrInv w) (hb : Below w.heap.size w w') : ErrInv w' where
  lo := Nat.lt_of_lt_of_le h.lo hb.size
  sent := fun c h1 => by
    obtain ⟨a, hc, cs, t, hh⟩ := h.sent c h1
    exact ⟨a, cell_in hb hc, cs, t, (hb.block _ (heap_lt hh)).trans hh⟩
theorem ErrInv.drewN {w : World} (h : ErrInv w) (n : Nat) : ErrInv (w.drewN n) where
  lo := h.lo
  sent := h.sent
theorem gidx_lo (c : Nat) : gidx c ≤ 18 := by unfold gidx; split <;> omega
theorem IsInv.err {w : World} (h : IsInv w) (hl : 18 < w.heap.size) : ErrInv w where
  lo := hl
  sent := fun c hc => h.sent c (by simp at hc; omega) (by simp at hc; omega)

/-- The error that a value is: none, or a place and a named error's number. -/
def FltIs (w : World) (v : Value) : Option (Int × Nat) → Prop
  | none => v = .nilIface
  | some (a, c) => 1 ≤ c ∧ c ≤ 18 ∧ ∃ g s, v = .iface 54 (.pointer (some ⟨g, 0, none⟩)) ∧ w.heap[g]? = some (.cells #[.int .i64 a, s] 58 (0, 0)) ∧ w.cell? ⟨gidx c, 0, none⟩ = some s
theorem FltIs.below {w w' : World} {v : Value} {x : Option (Int × Nat)} (h : FltIs w v x) (hb : Below w.heap.size w w') : FltIs w' v x := by
  match x, h with
  | none, h => exact h
  | some (a, c), ⟨h1, h2, g, s, h3, h4, h5⟩ => exact ⟨h1, h2, g, s, h3, (hb.block _ (heap_lt h4)).trans h4, cell_in hb h5⟩
theorem FltIs.drewN {w : World} {v : Value} {x : Option (Int × Nat)} (h : FltIs w v x) (n : Nat) : FltIs (w.drewN n) v x := by
  match x, h with
  | none, h => exact h
  | some (a, c), h => exact h
/-- What eponymlaw01.Is tells. -/
def isB (x : Option (Int × Nat)) (a c : Int) : Bool :=
  match x with
  | none => c == 0
  | some (b, d) => c != 0 && b == a && (d : Int) == c

theorem as_fault (e : Addr) (w : World) (hg : w.cell? ⟨5, 0, none⟩ = some (.iface 111 (.agg #[.pointer (some ⟨27, 32, none⟩)]))) :
    Calls Tryz.prog 22 #[.iface 54 (.pointer (some e)), .iface 56 (.pointer (some ⟨w.heap.size, 0, none⟩))] (w.alloc (.cells #[.pointer none] 54)) fun ev w' => ev = .returned (.bool true) ∧ w'.cell? ⟨w.heap.size, 0, none⟩ = some (.pointer (some e)) ∧ Below w.heap.size w w' := by
  refine (as_hit e ⟨w.heap.size, 0, none⟩ (.pointer none) _ (by rw [World.cell?_alloc_lt _ _ ⟨5, 0, none⟩ (World.block_lt_of_cell? w _ hg)]; exact hg) (by simp) (by simp)).mono ?_
  rintro ev w' ⟨rfl, rfl⟩
  refine ⟨rfl, ?_, ?_⟩
  · refine World.cell?_setCell_same' _ _ _ ?_
    rw [World.cell?_alloc_lt _ _ _ (by first | (simp; done) | (simp; omega)), World.cell?_alloc_lt _ _ _ (by first | (simp; done) | (simp; omega)), World.cell?_alloc_lt _ _ _ (by first | (simp; done) | (simp; omega)), World.cell?_alloc_lt _ _ _ (by first | (simp; done) | (simp; omega))]
    simp
  · exact ((((((Below.refl _ _).alloc (Nat.le_refl _) _).alloc (by simp) _).alloc (by simp; omega) _).alloc (by simp; omega) _).alloc (by simp; omega) _).setCell (Nat.le_refl _) _

theorem named_any (c : Nat) (h1 : 1 ≤ c) (h2 : c ≤ 18) (s : Value) (w : World) (hs : w.cell? ⟨gidx c, 0, none⟩ = some s) :
    Calls Tryz.prog 24 #[.int .i64 (c : Int)] w fun e w' => e = .returned s ∧ w' = w := by
  obtain h | h | h | h | h | h | h | h | h | h | h | h | h | h | h | h | h | h : c = 1 ∨ c = 2 ∨ c = 3 ∨ c = 4 ∨ c = 5 ∨ c = 6 ∨ c = 7 ∨ c = 8 ∨ c = 9 ∨ c = 10 ∨ c = 11 ∨ c = 12 ∨ c = 13 ∨ c = 14 ∨ c = 15 ∨ c = 16 ∨ c = 17 ∨ c = 18 := by omega
  all_goals
    subst h
    clear h1 h2
    simp only [gidx] at hs
    go_enter Tryz.func24, Tryz.ntmps24
    go_wp2
    go_ret
    exact ⟨rfl, rfl⟩

/-- eponymlaw01.Is. -/
theorem is_zero (v : Value) (x : Option (Int × Nat)) (a : Int) (w : World) (hx : FltIs w v x) :
    Calls Tryz.prog 9 #[v, .int .i64 a, .int .i64 0] w fun e w' => e = .returned (.bool (isB x a 0)) ∧ w' = w := by
  match x, hx with
  | none, hx =>
    obtain rfl : v = .nilIface := hx
    go_enter Tryz.func9, Tryz.ntmps9
    go_wp2
    go_ret
    exact ⟨rfl, rfl⟩
  | some (b, d), ⟨_, _, g, s, h3, _, _⟩ =>
    subst h3
    go_enter Tryz.func9, Tryz.ntmps9
    go_wp2
    go_ret
    exact ⟨rfl, rfl⟩
theorem is_nil_other (a c : Int) (w : World) (hc : (c == 0) = false) :
    Calls Tryz.prog 9 #[.nilIface, .int .i64 a, .int .i64 c] w fun e w' => e = .returned (.bool false) ∧ Below w.heap.size w w' := by
  go_enter Tryz.func9, Tryz.ntmps9
  go_wp2
  go_ret
  exact ⟨rfl, (Below.refl _ _).alloc (Nat.le_refl _) _⟩
theorem is_far (g : Nat) (b : Int) (s : Value) (a c : Int) (w : World) (hc : (c == 0) = false) (hba : (b == a) = false) (hg : w.heap[g]? = some (.cells #[.int .i64 b, s] 58 (0, 0))) (hI : IsInv w) :
    Calls Tryz.prog 9 #[.iface 54 (.pointer (some ⟨g, 0, none⟩)), .int .i64 a, .int .i64 c] w fun e w' => e = .returned (.bool false) ∧ Below w.heap.size w w' := by
  have hgl := heap_lt hg
  have k0 : w.cell? ⟨g, 0, none⟩ = some (.int .i64 b) := by simp [World.cell?, hg]
  go_enter Tryz.func9, Tryz.ntmps9
  go_wp2_with fail
  refine (as_fault ⟨g, 0, none⟩ w hI.et).mono ?_
  rintro e w1 ⟨rfl, ht, hb⟩
  have k1 := (hb.cell (p := ⟨g, 0, none⟩) hgl).trans k0
  go_wp2
  go_ret
  exact ⟨rfl, hb⟩
theorem is_near (g : Nat) (d : Nat) (s : Value) (a : Int) (c : Nat) (h1 : 1 ≤ c) (h2 : c ≤ 18) (d1 : 1 ≤ d) (d2 : d ≤ 18) (w : World) (hg : w.heap[g]? = some (.cells #[.int .i64 a, s] 58 (0, 0))) (hs : w.cell? ⟨gidx d, 0, none⟩ = some s) (hI : IsInv w) :
    Calls Tryz.prog 9 #[.iface 54 (.pointer (some ⟨g, 0, none⟩)), .int .i64 a, .int .i64 (c : Int)] w fun e w' => e = .returned (.bool (d == c)) ∧ Below w.heap.size w w' := by
  have hgl := heap_lt hg
  have k0 : w.cell? ⟨g, 0, none⟩ = some (.int .i64 a) := by simp [World.cell?, hg]
  have k1 : w.cell? ⟨g, 1, none⟩ = some s := by simp [World.cell?, hg]
  obtain ⟨x, hx, cx, tx, bx⟩ := hI.sent d d1 d2
  obtain ⟨y, hy, cy, ty, by_⟩ := hI.sent c h1 h2
  obtain rfl : s = .iface 167 (.pointer (some x)) := by rw [hs] at hx; injection hx
  have hc0 : ((c : Int) == 0) = false := by rw [beq_eq_false_iff_ne]; omega
  have hxy := hI.other d c
  have hfin : (d == c) = decide (x = y) := by
    rw [Bool.eq_iff_iff, beq_iff_eq, decide_eq_true_eq]
    constructor
    · intro e; subst e; rw [hx] at hy; injection hy with hy; injection hy with _ hy; injection hy with hy; injection hy
    · intro e; subst e; exact hxy x d1 d2 h1 h2 hx hy
  rw [hfin]
  clear hfin hxy
  go_enter Tryz.func9, Tryz.ntmps9
  go_wp2_with fail
  refine (as_fault ⟨g, 0, none⟩ w hI.et).mono ?_
  rintro e w1 ⟨rfl, ht, hb⟩
  have q0 := (hb.cell (p := ⟨g, 0, none⟩) hgl).trans k0
  have q1 := (hb.cell (p := ⟨g, 1, none⟩) hgl).trans k1
  have qy := cell_in hb hy
  have qbx := (hb.block _ (heap_lt bx)).trans bx
  have qby := (hb.block _ (heap_lt by_)).trans by_
  go_wp2_with fail
  refine (named_any c h1 h2 _ w1 qy).mono ?_
  rintro e w2 ⟨rfl, rfl⟩
  go_wp2_with fail
  by_cases hxy : x = y
  · subst hxy
    refine (is_wrap_same g x _ q1).mono ?_
    rintro e w3 ⟨rfl, rfl⟩
    go_wp2
    go_ret
    exact ⟨by simp, hb⟩
  · refine (is_wrap_other g y x cx cy tx ty _ q1 hxy qbx qby).mono ?_
    rintro e w3 ⟨rfl, rfl⟩
    go_wp2
    go_ret
    exact ⟨by simp [hxy], hb⟩
theorem is_any (v : Value) (x : Option (Int × Nat)) (a c : Int) (h0 : 0 ≤ c) (h18 : c ≤ 18) (w : World) (hx : FltIs w v x) (hI : IsInv w) :
    Calls Tryz.prog 9 #[v, .int .i64 a, .int .i64 c] w fun e w' => e = .returned (.bool (isB x a c)) ∧ Below w.heap.size w w' := by
  by_cases hc : c = 0
  · subst hc
    refine (is_zero v x a w hx).mono ?_
    rintro e w' ⟨rfl, rfl⟩
    exact ⟨rfl, Below.refl _ _⟩
  · have hc' : (c == 0) = false := by rw [beq_eq_false_iff_ne]; exact hc
    match x, hx with
    | none, hx =>
      obtain rfl : v = .nilIface := hx
      refine (is_nil_other a c w hc').mono ?_
      rintro e w' ⟨rfl, hb⟩
      exact ⟨by simp [isB, hc'], hb⟩
    | some (b, d), ⟨d1, d2, g, s, h3, h4, h5⟩ =>
      subst h3
      by_cases hba : b = a
      · subst hba
        obtain ⟨n, rfl⟩ := Int.eq_ofNat_of_zero_le h0
        refine (is_near g d s b n (by omega) (by omega) d1 d2 w h4 h5 hI).mono ?_
        rintro e w' ⟨rfl, hb⟩
        refine ⟨?_, hb⟩
        have : (d == n) = isB (some (b, d)) b (n : Int) := by
          simp only [isB]
          rw [Bool.eq_iff_iff]
          simp
          omega
        rw [this]
      · refine (is_far g b s a c w hc' (by rw [beq_eq_false_iff_ne]; exact hba) h4 hI).mono ?_
        rintro e w' ⟨rfl, hb⟩
        exact ⟨by simp [isB, hba], hb⟩
end Go.Proofs.YtpjjkejppgehaaaGreatDoor
