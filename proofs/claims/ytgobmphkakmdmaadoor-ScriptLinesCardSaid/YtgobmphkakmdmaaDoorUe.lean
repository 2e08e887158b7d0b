/- errors.As and errors.Is of a number that is an error: closed facts. -/
import Derived.Test.YtgobmphkakmdmaaDoorUb
import Derived.Test.YtgobmphkakmdmaaDoorKt
import Derived.Test.YtgobmphkakmdmaaDoorKz
import Derived.Stop.Asserts
set_option linter.unusedVariables false
--@def PT := 57
--@def FT := 55
--@def EN := 25
--@def RT := 85
--@def VT := 69
namespace Go.Kx
open Go
section
variable {P : Program} {n : Nat} {env : Env} {w : World} {dst : Option Tmp} {ty : TypeId} {pos : String} {aft : Array Edge} {g : Option (Nat × Bool)}
/-- A method that the model stands in for. -/
theorem x_invokeX {x : Operand} {xs : List Operand} {ts : Array TypeId} {T : TypeId} {v v' r : Value} {name : String} {gf : FuncId} {e : Array Value → Sem Value} {w' : World} [hX : TX P gf e]
    (hm : (method (P.types.size + Made.depth) T v name).run P w = .ok (gf, v') w) (hx : ev n env x = .iface T v) (hr : (e (v' :: xs.map (ev n env)).toArray).run P w = .ok r w') :
    Run P n env ⟨dst, .call ⟨.invoke x name, xs.toArray, ts⟩, ty, pos, aft, g⟩ w (.ok (.value r) w') := by
  have h0 : 0 < Made.depth := by decide
  obtain ⟨k, hk⟩ : ∃ k, P.types.size + Made.depth = k + 1 := ⟨P.types.size + Made.depth - 1, by omega⟩
  rw [hk] at hm
  obtain ⟨fn, h1, h2, h3, h4, h5⟩ := hX.h
  have hc : ∀ args, (callFunc gf args).run P w = _ := fun args => run_callFunc_extern h1 h2 h3 h4 h5 args w
  unfold Run
  simp [execOp, resolve, invoke, hx, callMethod, hk, hm, hc]
  rw [List.take_of_length_le (by simp), hr]
  rfl
theorem x_assert {x : Operand} {T A : TypeId} {b : Bool} {v r : Value} (hx : ev n env x = v) (hr : (Instr.typeAssert v T A b).run P w = .ok r w) :
    Run P n env ⟨dst, .typeAssert x T A b, ty, pos, aft, g⟩ w (.ok (.value r) w) := by
  unfold Run
  simp [execOp, hx, hr]
theorem x_bin {x y : Operand} {op : BinOp} {T T' t u : TypeId} {v v' r : Value} (hx : ev n env x = .iface t v) (hy : ev n env y = .iface u v') (hr : (binOp op T (.iface t v) (.iface u v')).run P w = .ok r w) :
    Run P n env ⟨dst, .binOp op T x y T', ty, pos, aft, g⟩ w (.ok (.value r) w) := by
  unfold Run
  simp [execOp, hx, hy, eqGuard, hr]
end
end Go.Kx
namespace Go.Proofs.YtgobmphkakmdmaaDoor
open Go Go.Kx Go.Extern
theorem e_valueOf (t : Addr) (w : World) : (ReflectliteValue.unpack (.iface 57 (.pointer (some t)))).run Tryd.prog w
    = .ok (.agg #[.pointer (some ⟨5, 57, none⟩), .pointer (some ⟨w.heap.size, 0, none⟩), .int .u64 150]) (w.alloc (.cells #[.pointer (some t)] 57)) := by kernel_rfl
theorem e_type (a : Addr) (w : World) : (ReflectliteValue.methodAny (ReflectliteValue.valueError "reflectlite.Value.Type" 0) (fun t _ _ _ => ReflectliteType.toType t) #[.agg #[.pointer (some ⟨5, 57, none⟩), .pointer (some a), .int .u64 150]]).run Tryd.prog w
    = .ok (.iface 85 (.agg #[.pointer (some ⟨5, 57, none⟩)])) w := by kernel_rfl
theorem e_methodKind (h : Value) (w : World) : (Go.method (Tryd.prog.types.size + Made.depth) 85 (.agg #[h]) "Kind").run Tryd.prog w = .ok (76, h) w := by kernel_rfl
theorem e_methodElem (h : Value) (w : World) : (Go.method (Tryd.prog.types.size + Made.depth) 85 (.agg #[h]) "Elem").run Tryd.prog w = .ok (89, .agg #[h]) w := by kernel_rfl
theorem e_methodImplements (h : Value) (w : World) : (Go.method (Tryd.prog.types.size + Made.depth) 85 (.agg #[h]) "Implements").run Tryd.prog w = .ok (90, .agg #[h]) w := by kernel_rfl
theorem e_methodAssign (h : Value) (w : World) : (Go.method (Tryd.prog.types.size + Made.depth) 85 (.agg #[h]) "AssignableTo").run Tryd.prog w = .ok (87, .agg #[h]) w := by kernel_rfl
theorem e_methodComp (h : Value) (w : World) : (Go.method (Tryd.prog.types.size + Made.depth) 85 (.agg #[h]) "Comparable").run Tryd.prog w = .ok (88, .agg #[h]) w := by kernel_rfl
theorem e_kindP (w : World) : ((ReflectliteType.abiMethod fun t => (do pure (.int .u8 (← Rtype.kind t)))) #[.pointer (some ⟨5, 57, none⟩)]).run Tryd.prog w = .ok (.int .u8 22) w := by kernel_rfl
theorem e_kindF (w : World) : ((ReflectliteType.abiMethod fun t => (do pure (.int .u8 (← Rtype.kind t)))) #[.pointer (some ⟨5, 55, none⟩)]).run Tryd.prog w = .ok (.int .u8 22) w := by kernel_rfl
theorem e_elem (w : World) : (ReflectliteType.method ReflectliteType.elem #[.agg #[.pointer (some ⟨5, 57, none⟩)]]).run Tryd.prog w = .ok (.iface 85 (.agg #[.pointer (some ⟨5, 55, none⟩)])) w := by kernel_rfl
theorem e_implements (w : World) : (ReflectliteType.relation "Implements" ReflectliteType.implements_ #[.agg #[.pointer (some ⟨5, 55, none⟩)], .iface 85 (.agg #[.pointer (some ⟨5, 42, none⟩)])]).run Tryd.prog w = .ok (.bool true) w := by kernel_rfl
theorem e_typeOf (n : Int) (w : World) : (ReflectliteType.typeOf #[.iface 25 (.int .i64 n)]).run Tryd.prog w = .ok (.iface 85 (.agg #[.pointer (some ⟨5, 25, none⟩)])) w := by kernel_rfl
theorem e_assign (w : World) : (ReflectliteType.relation "AssignableTo" ReflectliteType.assignableTo #[.agg #[.pointer (some ⟨5, 25, none⟩)], .iface 85 (.agg #[.pointer (some ⟨5, 55, none⟩)])]).run Tryd.prog w = .ok (.bool false) w := by kernel_rfl
theorem e_a89 (n : Int) (w : World) : (Instr.typeAssert (.iface 25 (.int .i64 n)) 42 89 true).run Tryd.prog w = .ok (.tuple #[.nilIface, .bool false]) w := run_typeAssert_lacksB Tryd.underlying89 (by kernel_rfl) (by kernel_rfl) _ _ w
theorem e_a92 (n : Int) (w : World) : (Instr.typeAssert (.iface 25 (.int .i64 n)) 42 92 true).run Tryd.prog w = .ok (.tuple #[.nilIface, .bool false]) w := run_typeAssert_lacksB Tryd.underlying92 (by kernel_rfl) (by kernel_rfl) _ _ w
theorem e_a94 (n : Int) (w : World) : (Instr.typeAssert (.iface 25 (.int .i64 n)) 42 94 true).run Tryd.prog w = .ok (.tuple #[.nilIface, .bool false]) w := run_typeAssert_lacksB Tryd.underlying94 (by kernel_rfl) (by kernel_rfl) _ _ w
theorem e_a97 (n : Int) (w : World) : (Instr.typeAssert (.iface 25 (.int .i64 n)) 42 97 true).run Tryd.prog w = .ok (.tuple #[.nilIface, .bool false]) w := run_typeAssert_lacksB Tryd.underlying97 (by kernel_rfl) (by kernel_rfl) _ _ w
theorem e_eq2 (w : World) : (binOp .eql 42 (.iface 25 (.int .i64 2)) (.iface 25 (.int .i64 15))).run Tryd.prog w = .ok (.bool false) w := by kernel_rfl
theorem e_eq15 (w : World) : (binOp .eql 42 (.iface 25 (.int .i64 15)) (.iface 25 (.int .i64 15))).run Tryd.prog w = .ok (.bool true) w := by kernel_rfl
theorem e_isNil0 (z : Sem Value) (f : TypeId → Addr → Nat → Nat → Sem Value) (v : Value) :
    ReflectliteValue.method z f #[v] = (do match ← ReflectliteValue.parts v with | none => z | some (t, a, fl) => f t a fl (fl % 32)) := rfl
theorem e_parts (a : Addr) (w : World) : (ReflectliteValue.parts (.agg #[.pointer (some ⟨5, 57, none⟩), .pointer (some a), .int .u64 150])).run Tryd.prog w = .ok (some (57, a, 150)) w := by kernel_rfl
theorem e_isNil (a p : Addr) (W : World) (ha : W.cell? a = some (.pointer (some p))) :
    (ReflectliteValue.method (ReflectliteValue.valueError "reflectlite.Value.IsNil" 0) ReflectliteValue.isNil #[.agg #[.pointer (some ⟨5, 57, none⟩), .pointer (some a), .int .u64 150]]).run Tryd.prog W = .ok (.bool false) W := by
  rw [e_isNil0]
  simp only [Sem.run_bind, e_parts, Result.andThen]
  simp [ReflectliteValue.isNil, loadVar, isAgg, underlying, Tryd.underlying57, ha, Result.andThen]
instance : TX Tryd.prog 30 (fun args => ReflectliteValue.unpack (args.getD 0 (.tuple #[]))) := ⟨_, Tryd.func30, by kernel_rfl, by kernel_rfl, by kernel_rfl, by kernel_rfl⟩
instance : TX Tryd.prog 31 (ReflectliteValue.methodAny (ReflectliteValue.valueError "reflectlite.Value.Type" 0) (fun t _ _ _ => ReflectliteType.toType t)) := ⟨_, Tryd.func31, by kernel_rfl, by kernel_rfl, by kernel_rfl, by kernel_rfl⟩
instance : TX Tryd.prog 32 (ReflectliteValue.method (ReflectliteValue.valueError "reflectlite.Value.IsNil" 0) ReflectliteValue.isNil) := ⟨_, Tryd.func32, by kernel_rfl, by kernel_rfl, by kernel_rfl, by kernel_rfl⟩
instance : TX Tryd.prog 76 (ReflectliteType.abiMethod fun t => do pure (.int .u8 (← Rtype.kind t))) := ⟨_, Tryd.func76, by kernel_rfl, by kernel_rfl, by kernel_rfl, by kernel_rfl⟩
instance : TX Tryd.prog 89 (ReflectliteType.method ReflectliteType.elem) := ⟨_, Tryd.func89, by kernel_rfl, by kernel_rfl, by kernel_rfl, by kernel_rfl⟩
instance : TX Tryd.prog 90 (ReflectliteType.relation "Implements" ReflectliteType.implements_) := ⟨_, Tryd.func90, by kernel_rfl, by kernel_rfl, by kernel_rfl, by kernel_rfl⟩
instance : TX Tryd.prog 87 (ReflectliteType.relation "AssignableTo" ReflectliteType.assignableTo) := ⟨_, Tryd.func87, by kernel_rfl, by kernel_rfl, by kernel_rfl, by kernel_rfl⟩
instance : TX Tryd.prog 34 ReflectliteType.typeOf := ⟨_, Tryd.func34, by kernel_rfl, by kernel_rfl, by kernel_rfl, by kernel_rfl⟩
theorem e_comp (w : World) : (ReflectliteType.method (fun t => do Rtype.noPackHeld "Comparable" t; pure (.bool (← typeInfo t).comparable)) #[.agg #[.pointer (some ⟨5, 25, none⟩)]]).run Tryd.prog w = .ok (.bool true) w := by kernel_rfl
instance : TX Tryd.prog 88 (ReflectliteType.method (fun t => do Rtype.noPackHeld "Comparable" t; pure (.bool (← typeInfo t).comparable))) := ⟨_, Tryd.func88, by kernel_rfl, by kernel_rfl, by kernel_rfl, by kernel_rfl⟩
instance : TZ Tryd.prog 69 (.agg [.pointer none, .pointer none, .int .u64 0].toArray) := ⟨by kernel_rfl⟩
instance : TSz Tryd.prog 69 3 := ⟨by kernel_rfl⟩
instance : TAgg Tryd.prog 69 3 := ⟨⟨_, Tryd.underlying69, rfl⟩, by kernel_rfl⟩
instance : TOne Tryd.prog 72 := ⟨⟨_, Tryd.underlying72, rfl⟩⟩
end Go.Proofs.YtgobmphkakmdmaaDoor
