/- Structs built of parts, slices turned into arrays, rows of one struct or array. Own work; nothing of a program is named here. -/
import Derived.Test.YtgobmphkakmdmaaDoorKx
import Derived.Laws.Tables
set_option linter.unusedVariables false
namespace Go.Kx
open Go
theorem foldl_lay (off : Nat) : ∀ (vs : List Value) (j : Nat) (cs : List Value), off + j + vs.length ≤ cs.length →
    (vs.zipIdx j).foldl (fun (c : Array Value) (x : Value × Nat) => c.setIfInBounds (off + x.2) x.1) cs.toArray = (lay cs (off + j) vs).toArray
  | [], j, cs, _ => by rw [lay_nil]; rfl
  | v :: vs, j, cs, h => by
    simp only [List.length_cons] at h
    have ih := foldl_lay off vs (j + 1) (cs.set (off + j) v) (by simp; omega)
    rw [show off + (j + 1) = off + j + 1 by omega, lay_cons (by omega)] at ih
    rw [← ih, List.zipIdx_cons, List.foldl_cons, List.setIfInBounds_toArray]
theorem fill_agg {place : Nat → Option (Nat × Nat)} {cs vs : List Value} {i off s : Nat} {rest : List (Nat × Value)} (hp : place i = some (off, s)) (hl : vs.length = s) (ho : off + s ≤ cs.length) :
    Instr.fill place cs.toArray ((i, .agg vs.toArray) :: rest) = Instr.fill place (lay cs off vs).toArray rest := by
  have h := foldl_lay off vs 0 cs (by omega)
  rw [Nat.add_zero] at h
  have hc : (Value.agg vs.toArray).cells = vs.toArray := rfl
  have hz : vs.toArray.zipIdx.foldl (fun (c : Array Value) (x : Value × Nat) => c.setIfInBounds (off + x.2) x.1) cs.toArray = (lay cs off vs).toArray := by rw [← h]; simp
  rw [Instr.fill, hp, hc]
  simp only
  rw [if_neg (by simp; omega), hz]
theorem fill_val {place : Nat → Option (Nat × Nat)} {cs : List Value} {v : Value} {i off : Nat} {rest : List (Nat × Value)} (hp : place i = some (off, 1)) (hv : one v = true) (ho : off < cs.length) :
    Instr.fill place cs.toArray ((i, v) :: rest) = Instr.fill place (cs.set off v).toArray rest := by
  have hcells : v.cells = #[v] := by cases v <;> simp_all [one, Value.cells]
  have hz : (#[v] : Array Value).zipIdx = #[(v, 0)] := rfl
  simp only [Instr.fill, hp, hcells, hz]
  rw [if_neg (by simp; omega)]
  simp
section
variable {P : Program} {n : Nat} {env : Env} {w : World} {dst : Option Tmp} {ty : TypeId} {pos : String} {aft : Array Edge} {g : Option (Nat × Bool)}
theorem x_arrayAt {T E : TypeId} {m : Nat} [hT : TU P T (.array m E)] {x : Operand} {a : Addr} {len cap : Nat} (hx : ev n env x = .slice (some a) len cap) (h : m ≤ len) :
    Run P n env ⟨dst, .sliceToArrayPointer T x, ty, pos, aft, g⟩ w (.ok (.value (.pointer (some a))) w) := by
  unfold Run
  simp [execOp, hx, Instr.arrayAt, run_underlying hT.h, show ¬ len < m by omega]
/-- A row of one struct or array. -/
theorem r_buildSliceA {T E : TypeId} {s : Nat} {z : Value} [hT : TU P T (.slice E)] [hZ : TZ P E z] [hS : TSz P E s] {x : Operand} {vs : List Value} (hx : ev n env x = .agg vs.toArray) (hl : vs.length = s) (hz : z.cells.size = s) (h0 : 0 < s := by decide) (hm : s ≤ 16777216 := by decide) :
    ∃ v w', Run P n env ⟨dst, .buildSlice T 1 #[(0, x)], ty, pos, aft, g⟩ w (.ok (.value v) w') ∧ ∃ b, v = .slice (some ⟨b, 0, none⟩) 1 1 ∧ b = w.heap.size ∧ Eff w w' b (.cells vs.toArray E (0, 0)) := by
  refine ⟨_, { w with heap := w.heap.push (.cells vs.toArray E (0, 0)) }, ?_, w.heap.size, rfl, rfl, eff_push w _⟩
  have hzl : z.cells.toList.length = s := by simpa using hz
  have hrep2 : (Array.range s).map (fun x => z.cells.toList[x % s]?.getD default) = z.cells := by
    apply Array.ext
    · simp [hz]
    · intro i h1 h2
      have h3 : i < s := by simpa using h1
      simp [Nat.mod_eq_of_lt h3, h2]
  have hf : Instr.fill (fun i => some (i * s, s)) z.cells [(0, .agg vs.toArray)] = some vs.toArray := by
    have := fill_agg (place := fun i => some (i * s, s)) (cs := z.cells.toList) (vs := vs) (i := 0) (off := 0) (s := s) (rest := []) (by simp) hl (by simp; omega)
    simp only [Array.toArray_toList] at this
    rw [this]
    have e : lay z.cells.toList 0 vs = vs := by simp [lay, List.drop_of_length_le (show z.cells.toList.length ≤ vs.length by simp; omega)]
    rw [e]; rfl
  have hall : ((Array.range (1 * s)).map (fun x => z.cells[x % z.cells.size]!)) = z.cells := by
    rw [Nat.one_mul, hz]
    apply Array.ext
    · simp [hz]
    · intro i h1 h2
      have h3 : i < s := by simpa using h1
      rw [Array.getElem_map, Array.getElem_range, Nat.mod_eq_of_lt h3]
      exact getElem!_pos z.cells i h2
  unfold Run
  have h1 : ¬ (1 * s > 2 ^ 24) := by omega
  have h2 : ¬ (1 * s = 0) := by omega
  simp only [execOp, Instr.buildSlice, Sem.run_bind, run_underlying hT.h, Result.andThen_ok, run_sizeOf hS.h, Sem.run_ite, h1, h2, if_false, run_zeroValue, Sem.run_pure, hall, hx, List.map_cons, List.map_nil, List.map_toArray, hf, newRow]
  rfl
end
end Go.Kx
