/- Strings of octets compared. Own work; nothing of a program is named here. -/
import Derived.Test.YtfngacepjcdlnaaDoorQHc
import Derived.Test.YtfngacepjcdlnaaDoorQKb
import Derived.Laws.Strings
set_option linter.unusedVariables false
namespace Go.Kx
open Go
section
variable {P : Program} {f : Fm} {n : Nat} {R : Ending → World → Prop} {k : List Item} {env : Env} {w : World} {d : Tmp} {ty : TypeId} {pos : String} {aft : Array Edge} {pre rest : List Oper} {dst : Option Tmp} {g : Option (Nat × Bool)}
theorem str_toList (l : List UInt8) : (⟨l.toArray⟩ : ByteArray).toList = l := by rw [ByteArray.toList_eq]
theorem list_beq (l m : List UInt8) : (l == m) = decide (l = m) := by
 by_cases h : l = m
 ·subst h; simp
 ·simp [h]
theorem x_eql_str {x y : Operand} {T T' : TypeId} {l m : List UInt8} [hT : TU P T .string] (hx : ev n env x = strV l) (hy : ev n env y = strV m) :
  Run P n env ⟨dst, .binOp .eql T x y T', ty, pos, aft, g⟩ w (.ok (.value (.bool (decide (l = m)))) w) := by
 unfold Run
 simp only [execOp, hx, hy, strV]
 have e : (Op.stringOp .eql ⟨l.toArray⟩ ⟨m.toArray⟩).run P w = .ok (.bool (decide (l = m))) w := by
  unfold Op.stringOp
  simp only [str_toList, list_beq]
  rfl
 simp [eqGuard_at_string, binOp, e]
theorem x_neq_str {x y : Operand} {T T' : TypeId} {l m : List UInt8} [hT : TU P T .string] (hx : ev n env x = strV l) (hy : ev n env y = strV m) :
  Run P n env ⟨dst, .binOp .neq T x y T', ty, pos, aft, g⟩ w (.ok (.value (.bool (decide (l ≠ m)))) w) := by
 unfold Run
 simp only [execOp, hx, hy, strV]
 have e : (Op.stringOp .neq ⟨l.toArray⟩ ⟨m.toArray⟩).run P w = .ok (.bool (!decide (l = m))) w := by
  unfold Op.stringOp
  simp only [str_toList, list_beq]
  rfl
 simp [eqGuard_at_string, binOp, e]
theorem x_lss_str {x y : Operand} {T T' : TypeId} {l m : List UInt8} [hT : TU P T .string] (hx : ev n env x = strV l) (hy : ev n env y = strV m) :
  Run P n env ⟨dst, .binOp .lss T x y T', ty, pos, aft, g⟩ w (.ok (.value (.bool (Kr.lt l m))) w) := by
 unfold Run
 simp only [execOp, hx, hy, strV]
 have e : (Op.stringOp .lss ⟨l.toArray⟩ ⟨m.toArray⟩).run P w = .ok (.bool (Kr.lt l m)) w := by
  unfold Op.stringOp
  simp only [str_toList]
  rfl
 simp [eqGuard_at_string, binOp, e]
end
end Go.Kx
