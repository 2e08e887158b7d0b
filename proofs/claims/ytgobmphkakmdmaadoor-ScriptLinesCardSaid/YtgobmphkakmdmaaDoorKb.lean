/- What single operations do, said of slots and blocks. Own work; nothing of a program is named here. -/
import Derived.Test.YtgobmphkakmdmaaDoorKa
namespace Go.Kx
open Go

/-! Facts on types, found by instance. -/
class TU (P : Program) (T : TypeId) (d : outParam TypeDesc) : Prop where
  h : P.underlying T = some d
class TSz (P : Program) (T : TypeId) (s : outParam Nat) : Prop where
  h : (P.info? T).map (·.size) = some s
class TBy (P : Program) (T : TypeId) (s : outParam Nat) : Prop where
  h : (P.info? T).map (·.bytes) = some s
class TZ (P : Program) (T : TypeId) (z : outParam Value) : Prop where
  h : (P.info? T).map (·.zero) = some (some z)
/-- A type whose values lie in one cell. -/
class TOne (P : Program) (T : TypeId) : Prop where
  h : ∃ d, P.underlying T = some d ∧ (match d with | .struct _ | .array _ _ => false | _ => true) = true
/-- A struct or an array, of so many cells. -/
class TAgg (P : Program) (T : TypeId) (s : outParam Nat) : Prop where
  h : ∃ d, P.underlying T = some d ∧ (match d with | .struct _ | .array _ _ => true | _ => false) = true
  hs : (P.info? T).map (·.size) = some s
/-- Field i of a struct, not of no size, begins so far behind. -/
class TFld (P : Program) (T : TypeId) (i : Nat) (off : outParam Nat) : Prop where
  h : ∃ fs fd, P.underlying T = some (.struct fs) ∧ fs[i]? = some fd ∧ fd.offset = off ∧ ((P.info? fd.type).map (·.size) = some 0) = False ∧ (P.info? fd.type).isSome = true

/-- A block: cells of a type; which of them may not be written. -/
def Blk (w : World) (b : Nat) (E : TypeId) (fz : Nat × Nat) (cs : List Value) : Prop := w.heap[b]? = some (.cells cs.toArray E fz)

section
variable {P : Program} {n : Nat} {env : Env} {w : World} {dst : Option Tmp} {ty : TypeId} {pos : String} {aft : Array Edge} {g : Option (Nat × Bool)}

theorem x_move {x : Operand} {v : Value} (hx : ev n env x = v) : Run P n env ⟨dst, .move x, ty, pos, aft, g⟩ w (.ok (.value v) w) := by
  unfold Run
  simp [execOp, hx]
theorem x_assign {x : Operand} {v : Value} (hx : ev n env x = v) : Run P n env ⟨dst, .assign x, ty, pos, aft, g⟩ w (.ok (.value v) w) := by
  unfold Run
  simp [execOp, hx]
theorem x_pick {c x y : Operand} {b : Bool} (hc : ev n env c = .bool b) : Run P n env ⟨dst, .pick c x y, ty, pos, aft, g⟩ w (.ok (.value (bif b then ev n env x else ev n env y)) w) := by
  unfold Run
  cases b <;> simp [execOp, hc, asBool]
theorem x_pick_t {c x y : Operand} {v : Value} (hc : ev n env c = .bool true) (hx : ev n env x = v) : Run P n env ⟨dst, .pick c x y, ty, pos, aft, g⟩ w (.ok (.value v) w) := by
  subst hx; exact x_pick hc
theorem x_pick_f {c x y : Operand} {v : Value} (hc : ev n env c = .bool false) (hx : ev n env y = v) : Run P n env ⟨dst, .pick c x y, ty, pos, aft, g⟩ w (.ok (.value v) w) := by
  subst hx; exact x_pick hc
theorem x_extract {x : Operand} {i : Nat} {vs : List Value} {v : Value} (hx : ev n env x = .tuple vs.toArray) (hv : vs[i]? = some v) :
    Run P n env ⟨dst, .extract x i, ty, pos, aft, g⟩ w (.ok (.value v) w) := by
  unfold Run
  simp [execOp, hx, Instr.extract, hv]
theorem x_nilCheck {x : Operand} {a : Addr} (hx : ev n env x = .pointer (some a)) :
    Run P n env ⟨dst, .nilCheck x, ty, pos, aft, g⟩ w (.ok (.value (.pointer (some a))) w) := by
  unfold Run
  simp [execOp, hx]
theorem x_not {x : Operand} {T : TypeId} {b : Bool} (hx : ev n env x = .bool b) :
    Run P n env ⟨dst, .unOp .not T x, ty, pos, aft, g⟩ w (.ok (.value (.bool (!b))) w) := by
  unfold Run
  simp [execOp, hx, go_sem]

theorem x_add {x y : Operand} {T T' : TypeId} {k : IntKind} {a b : Int} (hx : ev n env x = .int k a) (hy : ev n env y = .int k b) :
    Run P n env ⟨dst, .binOp .add T x y T', ty, pos, aft, g⟩ w (.ok (.value (.int k (k.wrap (a + b)))) w) := by
  unfold Run
  simp [execOp, hx, hy, eqGuard_add, binOp_add, Op.intArith]
theorem x_sub {x y : Operand} {T T' : TypeId} {k : IntKind} {a b : Int} (hx : ev n env x = .int k a) (hy : ev n env y = .int k b) :
    Run P n env ⟨dst, .binOp .sub T x y T', ty, pos, aft, g⟩ w (.ok (.value (.int k (k.wrap (a - b)))) w) := by
  unfold Run
  simp [execOp, hx, hy, eqGuard_sub, binOp_sub, Op.intArith]
theorem x_mul {x y : Operand} {T T' : TypeId} {k : IntKind} {a b : Int} (hx : ev n env x = .int k a) (hy : ev n env y = .int k b) :
    Run P n env ⟨dst, .binOp .mul T x y T', ty, pos, aft, g⟩ w (.ok (.value (.int k (k.wrap (a * b)))) w) := by
  unfold Run
  simp [execOp, hx, hy, eqGuard_mul, binOp_mul, Op.intArith]
theorem x_lss {x y : Operand} {T T' : TypeId} {k : IntKind} {a b : Int} (hx : ev n env x = .int k a) (hy : ev n env y = .int k b) :
    Run P n env ⟨dst, .binOp .lss T x y T', ty, pos, aft, g⟩ w (.ok (.value (.bool (decide (a < b)))) w) := by
  unfold Run
  simp [execOp, hx, hy, eqGuard_lss, binOp_lss]
theorem x_leq {x y : Operand} {T T' : TypeId} {k : IntKind} {a b : Int} (hx : ev n env x = .int k a) (hy : ev n env y = .int k b) :
    Run P n env ⟨dst, .binOp .leq T x y T', ty, pos, aft, g⟩ w (.ok (.value (.bool (decide (a ≤ b)))) w) := by
  unfold Run
  simp [execOp, hx, hy, eqGuard_leq, binOp_leq]
theorem x_gtr {x y : Operand} {T T' : TypeId} {k : IntKind} {a b : Int} (hx : ev n env x = .int k a) (hy : ev n env y = .int k b) :
    Run P n env ⟨dst, .binOp .gtr T x y T', ty, pos, aft, g⟩ w (.ok (.value (.bool (decide (b < a)))) w) := by
  unfold Run
  simp [execOp, hx, hy, eqGuard_gtr, binOp_gtr]
theorem x_geq {x y : Operand} {T T' : TypeId} {k : IntKind} {a b : Int} (hx : ev n env x = .int k a) (hy : ev n env y = .int k b) :
    Run P n env ⟨dst, .binOp .geq T x y T', ty, pos, aft, g⟩ w (.ok (.value (.bool (decide (b ≤ a)))) w) := by
  unfold Run
  simp [execOp, hx, hy, eqGuard_geq, binOp_geq]
theorem x_eql {x y : Operand} {T T' : TypeId} {k : IntKind} {a b : Int} (hx : ev n env x = .int k a) (hy : ev n env y = .int k b) :
    Run P n env ⟨dst, .binOp .eql T x y T', ty, pos, aft, g⟩ w (.ok (.value (.bool (decide (a = b)))) w) := by
  unfold Run
  simp [execOp, hx, hy, eqGuard_at_int, binOp_eql]; rfl
theorem x_neq {x y : Operand} {T T' : TypeId} {k : IntKind} {a b : Int} (hx : ev n env x = .int k a) (hy : ev n env y = .int k b) :
    Run P n env ⟨dst, .binOp .neq T x y T', ty, pos, aft, g⟩ w (.ok (.value (.bool (decide (a ≠ b)))) w) := by
  unfold Run
  have : (a != b) = decide (a ≠ b) := by by_cases h : a = b <;> simp [h]
  simp [execOp, hx, hy, eqGuard_at_int, binOp_neq, this]
theorem x_quo {x y : Operand} {T T' : TypeId} {k : IntKind} {a b : Int} (hx : ev n env x = .int k a) (hy : ev n env y = .int k b) (hb : b ≠ 0) :
    Run P n env ⟨dst, .binOp .quo T x y T', ty, pos, aft, g⟩ w (.ok (.value (.int k (k.wrap (a.tdiv b)))) w) := by
  unfold Run
  simp [execOp, hx, hy, eqGuard_quo, binOp_quo, Op.intDiv, hb]
theorem x_rem {x y : Operand} {T T' : TypeId} {k : IntKind} {a b : Int} (hx : ev n env x = .int k a) (hy : ev n env y = .int k b) (hb : b ≠ 0) :
    Run P n env ⟨dst, .binOp .rem T x y T', ty, pos, aft, g⟩ w (.ok (.value (.int k (a.tmod b))) w) := by
  unfold Run
  simp [execOp, hx, hy, eqGuard_rem, binOp_rem, Op.intDiv, hb]
theorem x_eql_bool {x y : Operand} {T T' : TypeId} {a b : Bool} (hx : ev n env x = .bool a) (hy : ev n env y = .bool b) [hT : TU P T .bool] :
    Run P n env ⟨dst, .binOp .eql T x y T', ty, pos, aft, g⟩ w (.ok (.value (.bool (a == b))) w) := by
  unfold Run
  cases a <;> cases b <;> simp [execOp, hx, hy, eqGuard_at_bool, run_eql_bool, hT.h]
theorem x_neq_bool {x y : Operand} {T T' : TypeId} {a b : Bool} (hx : ev n env x = .bool a) (hy : ev n env y = .bool b) [hT : TU P T .bool] :
    Run P n env ⟨dst, .binOp .neq T x y T', ty, pos, aft, g⟩ w (.ok (.value (.bool (a != b))) w) := by
  unfold Run
  cases a <;> cases b <;> simp [execOp, hx, hy, eqGuard_at_bool, run_neq_bool, hT.h] <;> rfl
theorem x_convert {S T : TypeId} {x : Operand} {k k' ks : IntKind} {a : Int} [hS : TU P S (.int ks)] [hT : TU P T (.int k')] (hx : ev n env x = .int k a) :
    Run P n env ⟨dst, .convert S T x, ty, pos, aft, g⟩ w (.ok (.value (.int k' (k'.wrap a))) w) := by
  unfold Run
  simp [execOp, hx, convert, run_underlying hS.h, run_underlying hT.h, Conv.intToInt]
theorem x_len_slice {T : TypeId} {x : Operand} {a : Option Addr} {l c : Nat} {E : TypeId} [hT : TU P T (.slice E)] (hx : ev n env x = .slice a l c) :
    Run P n env ⟨dst, .call ⟨.builtin .len, #[x], #[T]⟩, ty, pos, aft, g⟩ w (.ok (.value (.int .i64 l)) w) := by
  unfold Run
  simp [execOp, hx, resolve, invoke, builtin, run_underlying hT.h, Builtin.len_, goInt]
theorem x_len_string {T : TypeId} {x : Operand} {s : ByteArray} [hT : TU P T .string] (hx : ev n env x = .string s) :
    Run P n env ⟨dst, .call ⟨.builtin .len, #[x], #[T]⟩, ty, pos, aft, g⟩ w (.ok (.value (.int .i64 s.size)) w) := by
  unfold Run
  simp [execOp, hx, resolve, invoke, builtin, run_underlying hT.h, Builtin.len_, goInt]
theorem x_len_array {T : TypeId} {x : Operand} {m : Nat} {E : TypeId} [hT : TU P T (.array m E)] :
    Run P n env ⟨dst, .call ⟨.builtin .len, #[x], #[T]⟩, ty, pos, aft, g⟩ w (.ok (.value (.int .i64 m)) w) := by
  unfold Run
  cases h : ev n env x <;> simp [execOp, h, resolve, invoke, builtin, run_underlying hT.h, Builtin.len_, goInt]

/-- A function with a body. -/
class TFn (P : Program) (f : FuncId) : Prop where
  h : ∃ fn, P.funcs[f]? = some fn ∧ (fn.name == "runtime.NumGoroutine") = false ∧ fn.body.isNone = false
theorem run_callFunc {gf : FuncId} [hF : TFn P gf] (args : Array Value) : (callFunc gf args).run P w = .ok (.enter gf args) w := by
  obtain ⟨fn, h1, h2, h3⟩ := hF.h
  have h2' : ¬ fn.name = "runtime.NumGoroutine" := by simpa using h2
  have h3' : ¬ fn.body = none := by intro e; simp [e] at h3
  simp [callFunc, h1, h2', h3']
theorem x_call {xs : List Operand} {ts : Array TypeId} {gf : FuncId} [TFn P gf] :
    Run P n env ⟨dst, .call ⟨.value (.func gf), xs.toArray, ts⟩, ty, pos, aft, g⟩ w (.ok (.enter gf (xs.map (ev n env)).toArray) w) := by
  unfold Run
  simp [execOp, resolve, invoke, ev, Deferred.ofValue, run_callFunc]

/-! Memory. -/
theorem add_none (b off j : Nat) : (⟨b, off, none⟩ : Addr).add j = ⟨b, off + j, none⟩ := by
  unfold Addr.add; split
  · simp_all
  · rfl
theorem Blk.cell {b : Nat} {E : TypeId} {fz : Nat × Nat} {cs : List Value} (h : Blk w b E fz cs) (j : Nat) : w.cell? ⟨b, j, none⟩ = cs[j]? := by
  unfold Blk at h
  simp [World.cell?, h]
theorem Blk.lt {b : Nat} {E : TypeId} {fz : Nat × Nat} {cs : List Value} (h : Blk w b E fz cs) : b < w.heap.size := by
  unfold Blk at h
  exact (Array.getElem?_eq_some_iff.1 h).1
theorem run_isAgg_one {T : TypeId} [h : TOne P T] : (isAgg T).run P w = .ok false w := by
  obtain ⟨d, hd, hm⟩ := h.h
  unfold isAgg
  rw [Sem.run_bind, run_underlying hd w]
  cases d <;> simp_all
theorem run_isAgg_agg {T : TypeId} {s : Nat} [h : TAgg P T s] : (isAgg T).run P w = .ok true w := by
  obtain ⟨d, hd, hm⟩ := h.h
  unfold isAgg
  rw [Sem.run_bind, run_underlying hd w]
  cases d <;> simp_all
theorem run_sizeOf {T : TypeId} {s : Nat} (h : (P.info? T).map (·.size) = some s) : (sizeOf T).run P w = .ok s w := by
  cases hq : P.info? T with
  | none => simp [hq] at h
  | some i => simp [hq] at h; simp [sizeOf, typeInfo, hq, h]
theorem run_zeroValue {T : TypeId} {z : Value} [h : TZ P T z] : (zeroValue T).run P w = .ok z w := by
  have h := h.h
  cases hq : P.info? T with
  | none => simp [hq] at h
  | some i => simp [hq] at h; simp [zeroValue, typeInfo, hq, h]
theorem run_loadVar_one {T : TypeId} [TOne P T] {b off : Nat} {E : TypeId} {fz : Nat × Nat} {cs : List Value} {v : Value} (hb : Blk w b E fz cs) (hv : cs[off]? = some v) :
    (loadVar T ⟨b, off, none⟩).run P w = .ok v w := by
  have hc := hb.cell off
  rw [hv] at hc
  simp [loadVar, run_isAgg_one, hc]
theorem run_loadVar_agg {T : TypeId} {s : Nat} [hT : TAgg P T s] {b off : Nat} {E : TypeId} {fz : Nat × Nat} {cs vs : List Value} (hb : Blk w b E fz cs) (hl : vs.length = s)
    (hv : ∀ j, j < s → cs[off + j]? = vs[j]?) :
    (loadVar T ⟨b, off, none⟩).run P w = .ok (.agg vs.toArray) w := by
  have h := run_loadCells_list (P := P) w ⟨b, off, none⟩ vs (fun j v hj => by
    have hlt : j < s := by
      rcases Nat.lt_or_ge j vs.length with h | h
      · omega
      · rw [List.getElem?_eq_none h] at hj; simp at hj
    rw [add_none, hb.cell, hv j hlt, hj])
  rw [hl] at h
  simp [loadVar, run_isAgg_agg, run_sizeOf hT.hs, h]
theorem x_load1 {T : TypeId} [TOne P T] {x : Operand} {b off : Nat} {E : TypeId} {fz : Nat × Nat} {cs : List Value} {v : Value} (hx : ev n env x = .pointer (some ⟨b, off, none⟩))
    (hb : Blk w b E fz cs) (hv : cs[off]? = some v) :
    Run P n env ⟨dst, .load T x, ty, pos, aft, g⟩ w (.ok (.value v) w) := by
  unfold Run
  simp [execOp, hx, Instr.loadAt, Instr.sureAddr, run_loadVar_one hb hv]
theorem x_loadN {T : TypeId} {s : Nat} [hT : TAgg P T s] {x : Operand} {b off : Nat} {E : TypeId} {fz : Nat × Nat} {cs vs : List Value} (hx : ev n env x = .pointer (some ⟨b, off, none⟩))
    (hb : Blk w b E fz cs) (hl : vs.length = s) (hv : ∀ j, j < s → cs[off + j]? = vs[j]?) :
    Run P n env ⟨dst, .load T x, ty, pos, aft, g⟩ w (.ok (.value (.agg vs.toArray)) w) := by
  unfold Run
  simp [execOp, hx, Instr.loadAt, Instr.sureAddr, run_loadVar_agg hb hl hv]
theorem x_fieldAddr {T : TypeId} {i o : Nat} [hT : TFld P T i o] {x : Operand} {b off : Nat} (hx : ev n env x = .pointer (some ⟨b, off, none⟩)) :
    Run P n env ⟨dst, .fieldAddr T x i, ty, pos, aft, g⟩ w (.ok (.value (.pointer (some ⟨b, off + o, none⟩))) w) := by
  unfold Run
  obtain ⟨fs, fd, h1, h2, h3, h4, h5⟩ := hT.h
  cases hq : P.info? fd.type with
  | none => simp [hq] at h5
  | some inf =>
    have hne : inf.size ≠ 0 := by intro e; simp [hq, e] at h4
    simp [execOp, hx, Instr.fieldAt, run_underlying h1, h2, Instr.sureAddr, fieldPlace, run_sizeOf (P := P) (T := fd.type) (s := inf.size) (by simp [hq]), hne, add_none, h3]
theorem x_fieldAddrN {T : TypeId} {i o : Nat} [hT : TFld P T i o] {x : Operand} {b off off' : Nat} (hx : ev n env x = .pointer (some ⟨b, off, none⟩)) (ho : off + o = off') :
    Run P n env ⟨dst, .fieldAddr T x i, ty, pos, aft, g⟩ w (.ok (.value (.pointer (some ⟨b, off', none⟩))) w) := by
  subst ho; exact x_fieldAddr hx
theorem x_indexAddr {T E : TypeId} {s : Nat} [hT : TU P T (.slice E)] [hs : TSz P E s] {x ix : Operand} {b off len cap : Nat} {k : IntKind} {i : Int}
    (hx : ev n env x = .slice (some ⟨b, off, none⟩) len cap) (hi : ev n env ix = .int k i) (h0 : 0 ≤ i) (h1 : i < len) :
    Run P n env ⟨dst, .indexAddr T x ix, ty, pos, aft, g⟩ w (.ok (.value (.pointer (some ⟨b, off + i.toNat * s, none⟩))) w) := by
  unfold Run
  simp [execOp, hx, hi, Instr.indexAt, asIntOf, run_underlying hT.h, h0, h1, run_sizeOf hs.h, add_none]
theorem x_indexAddr_arr {T E : TypeId} {m s : Nat} [hT : TU P T (.array m E)] [hs : TSz P E s] {x ix : Operand} {b off : Nat} {k : IntKind} {i : Int}
    (hx : ev n env x = .pointer (some ⟨b, off, none⟩)) (hi : ev n env ix = .int k i) (h0 : 0 ≤ i) (h1 : i < m) :
    Run P n env ⟨dst, .indexAddr T x ix, ty, pos, aft, g⟩ w (.ok (.value (.pointer (some ⟨b, off + i.toNat * s, none⟩))) w) := by
  unfold Run
  simp [execOp, hx, hi, Instr.indexAt, asIntOf, run_underlying hT.h, h0, h1, run_sizeOf hs.h, add_none, Instr.sureAddr]

/-- w' is w with block b turned into o (or laid, where w has no such block). -/
structure Eff (w w' : World) (b : Nat) (o : Obj) : Prop where
  os : w'.os = w.os
  tape : w'.tape = w.tape
  output : w'.output = w.output
  size : w.heap.size ≤ w'.heap.size
  lt : b < w'.heap.size
  here : w'.heap[b]? = some o
  other : ∀ j, j ≠ b → j < w.heap.size → w'.heap[j]? = w.heap[j]?
/-- Of what was there nothing has turned but blocks of S. -/
structure Kp (S : Nat → Prop) (w w' : World) : Prop where
  os : w'.os = w.os
  tape : w'.tape = w.tape
  output : w'.output = w.output
  size : w.heap.size ≤ w'.heap.size
  keep : ∀ j, ¬ S j → j < w.heap.size → w'.heap[j]? = w.heap[j]?
def No : Nat → Prop := fun _ => False
theorem Kp.refl (S : Nat → Prop) (w : World) : Kp S w w := ⟨rfl, rfl, rfl, Nat.le_refl _, fun _ _ _ => rfl⟩
theorem Kp.trans {S : Nat → Prop} {a b c : World} (h : Kp S a b) (h' : Kp S b c) : Kp S a c :=
  ⟨h'.os.trans h.os, h'.tape.trans h.tape, h'.output.trans h.output, Nat.le_trans h.size h'.size, fun j hj hl => (h'.keep j hj (Nat.lt_of_lt_of_le hl h.size)).trans (h.keep j hj hl)⟩
/-- Behind a, what b lays or turns, if it is new to a or of S. -/
theorem Kp.trans' {S S' : Nat → Prop} {a b c : World} (h : Kp S a b) (h' : Kp S' b c) (hs : ∀ j, S' j → S j ∨ a.heap.size ≤ j) : Kp S a c :=
  ⟨h'.os.trans h.os, h'.tape.trans h.tape, h'.output.trans h.output, Nat.le_trans h.size h'.size,
    fun j hj hl => (h'.keep j (fun hj' => (hs j hj').elim hj fun hh => absurd hl (Nat.not_lt.2 hh)) (Nat.lt_of_lt_of_le hl h.size)).trans (h.keep j hj hl)⟩
theorem Kp.mono {S S' : Nat → Prop} {a b : World} (h : Kp S a b) (hs : ∀ j, S j → S' j) : Kp S' a b := ⟨h.os, h.tape, h.output, h.size, fun j hj => h.keep j fun hh => hj (hs j hh)⟩
theorem Eff.kp {w w' : World} {b : Nat} {o : Obj} (h : Eff w w' b o) {S : Nat → Prop} (hb : S b ∨ w.heap.size ≤ b) : Kp S w w' :=
  ⟨h.os, h.tape, h.output, h.size, fun j hj hl => h.other j (fun e => by subst e; exact hb.elim hj fun hh => absurd hl (Nat.not_lt.2 hh)) hl⟩
theorem Blk.kp {S : Nat → Prop} {w w' : World} {b : Nat} {E : TypeId} {fz : Nat × Nat} {cs : List Value} (h : Blk w b E fz cs) (hk : Kp S w w') (hb : ¬ S b) : Blk w' b E fz cs := by
  have hl := h.lt
  unfold Blk at *
  rw [hk.keep b hb hl, h]
theorem Blk.eff {w w' : World} {b b' : Nat} {o : Obj} {E : TypeId} {fz : Nat × Nat} {cs : List Value} (h : Blk w b E fz cs) (hk : Eff w w' b' o) (hb : b ≠ b') : Blk w' b E fz cs := by
  have hl := h.lt
  unfold Blk at *
  rw [hk.other b hb hl, h]
theorem Eff.blk {w w' : World} {b : Nat} {E : TypeId} {fz : Nat × Nat} {cs : List Value} (h : Eff w w' b (.cells cs.toArray E fz)) : Blk w' b E fz cs := h.here
theorem Kp.below {w w' : World} (h : Kp No w w') : RowKit.Below w.heap.size w w' := ⟨h.os, h.tape, h.output, h.size, fun k hk => h.keep k (fun hh => hh) hk⟩

theorem eff_push (w : World) (o : Obj) : Eff w { w with heap := w.heap.push o } w.heap.size o :=
  ⟨rfl, rfl, rfl, by simp, by simp, by simp, fun j hj hl => by simp [Array.getElem?_push, hj]⟩
theorem eff_setCell {b off : Nat} {E : TypeId} {cs : List Value} (h : Blk w b E (0, 0) cs) (v : Value) : Eff w (w.setCell ⟨b, off, none⟩ v) b (.cells (cs.set off v).toArray E (0, 0)) := by
  have hl := h.lt
  unfold Blk at h
  refine ⟨rfl, rfl, rfl, by simp [World.setCell], by simp [World.setCell]; exact hl, ?_, fun j hj _ => ?_⟩
  · simp [World.setCell, Array.getElem?_modify, h]
  · simp [World.setCell, Array.getElem?_modify, Ne.symm hj]

variable {f : Fm} {R : Ending → World → Prop} {k : List Item} {pre rest : List Oper}

theorem AtG_alloc {T : TypeId} {z : Value} [TZ P T z]
    (h : ∀ b w', b = w.heap.size → Eff w w' b (.cells z.cells T (0, 0)) → AtR P f n R (⟨dst, .alloc T, ty, pos, aft, g⟩ :: pre) rest k (updo env dst (.pointer (some ⟨b, 0, none⟩))) w') :
    AtG P f n R pre ⟨dst, .alloc T, ty, pos, aft, g⟩ rest k env w :=
  AtG_value (v := .pointer (some ⟨w.heap.size, 0, none⟩)) (w' := { w with heap := w.heap.push (.cells z.cells T (0, 0)) })
    (by unfold Run; simp [execOp, Instr.alloc, run_zeroValue, newVar, newRow]) (h _ _ rfl (eff_push w _))
theorem AtG_box {T : TypeId} {x : Operand} {v : Value} (hx : ev n env x = v)
    (h : ∀ b w', b = w.heap.size → Eff w w' b (.cells v.cells T (0, 0)) → AtR P f n R (⟨dst, .box T x, ty, pos, aft, g⟩ :: pre) rest k (updo env dst (.pointer (some ⟨b, 0, none⟩))) w') :
    AtG P f n R pre ⟨dst, .box T x, ty, pos, aft, g⟩ rest k env w :=
  AtG_value (v := .pointer (some ⟨w.heap.size, 0, none⟩)) (w' := { w with heap := w.heap.push (.cells v.cells T (0, 0)) })
    (by unfold Run; simp [execOp, Instr.box, newVar, newRow, hx]) (h _ _ rfl (eff_push w _))

/-- A value of one cell. -/
def one : Value → Bool
  | .agg _ | .tuple _ => false
  | _ => true
theorem run_store_one {b off : Nat} {E : TypeId} {cs : List Value} {v : Value} (hb : Blk w b E (0, 0) cs) (ho : off < cs.length) (hv : one v = true) :
    (store ⟨b, off, none⟩ v).run P w = .ok () (w.setCell ⟨b, off, none⟩ v) := by
  have hc := hb.cell off
  have hf : w.frozen? ⟨b, off, none⟩ = false := by
    unfold Blk at hb
    simp [World.frozen?, hb]
  rw [List.getElem?_eq_getElem ho] at hc
  cases v <;> simp_all [store, Sem.run, one]
theorem AtG_store1 {T : TypeId} {s : Nat} [hs : TSz P T s] {x y : Operand} {b off : Nat} {E : TypeId} {cs : List Value} {v : Value} (hx : ev n env x = .pointer (some ⟨b, off, none⟩))
    (hy : ev n env y = v) (hb : Blk w b E (0, 0) cs) (ho : off < cs.length) (hv : one v = true) (h1 : s = 1)
    (h : ∀ w', Eff w w' b (.cells (cs.set off v).toArray E (0, 0)) → AtR P f n R (⟨dst, .store T x y, ty, pos, aft, g⟩ :: pre) rest k (updo env dst undef) w') :
    AtG P f n R pre ⟨dst, .store T x y, ty, pos, aft, g⟩ rest k env w := by
  subst h1
  have hcells : v.cells = #[v] := by cases v <;> simp_all [one, Value.cells]
  exact AtG_skip (w' := w.setCell ⟨b, off, none⟩ v) (by
    unfold Run
    simp [execOp, Instr.storeAt, hx, hy, Instr.sureAddr, storeVar, run_sizeOf hs.h, hcells, storeCells, add_none, run_store_one hb ho hv]) (h _ (eff_setCell hb v))
theorem i64_in {x : Int} (h1 : -9223372036854775808 ≤ x) (h2 : x ≤ 9223372036854775807) : IntKind.i64.wrap x = x := IntWalk.i64_in x ⟨h1, h2⟩
theorem x_add64 {x y : Operand} {T T' : TypeId} {a b : Int} (hx : ev n env x = .int .i64 a) (hy : ev n env y = .int .i64 b)
    (h1 : -9223372036854775808 ≤ a + b) (h2 : a + b ≤ 9223372036854775807) :
    Run P n env ⟨dst, .binOp .add T x y T', ty, pos, aft, g⟩ w (.ok (.value (.int .i64 (a + b))) w) := by
  have h := x_add (P := P) (w := w) (dst := dst) (ty := ty) (pos := pos) (aft := aft) (g := g) (T := T) (T' := T') hx hy
  rw [i64_in h1 h2] at h; exact h
theorem x_sub64 {x y : Operand} {T T' : TypeId} {a b : Int} (hx : ev n env x = .int .i64 a) (hy : ev n env y = .int .i64 b)
    (h1 : -9223372036854775808 ≤ a - b) (h2 : a - b ≤ 9223372036854775807) :
    Run P n env ⟨dst, .binOp .sub T x y T', ty, pos, aft, g⟩ w (.ok (.value (.int .i64 (a - b))) w) := by
  have h := x_sub (P := P) (w := w) (dst := dst) (ty := ty) (pos := pos) (aft := aft) (g := g) (T := T) (T' := T') hx hy
  rw [i64_in h1 h2] at h; exact h
theorem x_indexAddr1 {T E : TypeId} [hT : TU P T (.slice E)] [hs : TSz P E 1] {x ix : Operand} {b off len cap : Nat} {k : IntKind} {i : Int}
    (hx : ev n env x = .slice (some ⟨b, off, none⟩) len cap) (hi : ev n env ix = .int k i) (h0 : 0 ≤ i) (h1 : i < len) :
    Run P n env ⟨dst, .indexAddr T x ix, ty, pos, aft, g⟩ w (.ok (.value (.pointer (some ⟨b, off + i.toNat, none⟩))) w) := by
  have h := x_indexAddr (P := P) (w := w) (dst := dst) (ty := ty) (pos := pos) (aft := aft) (g := g) (T := T) hx hi h0 h1
  rw [Nat.mul_one] at h; exact h

theorem x_indexAddrN1 {T E : TypeId} [hT : TU P T (.slice E)] [hs : TSz P E 1] {x ix : Operand} {b off len cap : Nat} {k : IntKind} {j : Nat}
    (hx : ev n env x = .slice (some ⟨b, off, none⟩) len cap) (hi : ev n env ix = .int k (j : Int)) (h1 : j < len) :
    Run P n env ⟨dst, .indexAddr T x ix, ty, pos, aft, g⟩ w (.ok (.value (.pointer (some ⟨b, off + j, none⟩))) w) := by
  have h := x_indexAddr1 (P := P) (w := w) (dst := dst) (ty := ty) (pos := pos) (aft := aft) (g := g) (T := T) hx hi (by omega) (by omega)
  rwa [Int.toNat_natCast] at h

/-- Cells of a block from off on. -/
def Seg (w : World) (b off : Nat) (vs : List Value) : Prop := ∀ j, j < vs.length → w.cell? ⟨b, off + j, none⟩ = vs[j]?
/-- Whole numbers of a kind. -/
def ints (k : IntKind) (xs : List Int) : List Value := xs.map (Value.int k)
theorem ints_get (k : IntKind) (xs : List Int) (j : Nat) (h : j < xs.length) : (ints k xs)[j]? = some (.int k (xs.getD j 0)) := by
  simp [ints, List.getD, h]
@[simp] theorem ints_length (k : IntKind) (xs : List Int) : (ints k xs).length = xs.length := by simp [ints]
theorem run_load_cell {b off : Nat} {T : TypeId} [TOne P T] {v : Value} (h : w.cell? ⟨b, off, none⟩ = some v) : (loadVar T ⟨b, off, none⟩).run P w = .ok v w := by
  simp [loadVar, run_isAgg_one, h]
theorem x_load_ints {T : TypeId} [TOne P T] {x : Operand} {b off j : Nat} {k : IntKind} {xs : List Int} (hx : ev n env x = .pointer (some ⟨b, off + j, none⟩))
    (hs : Seg w b off (ints k xs)) (hj : j < xs.length) :
    Run P n env ⟨dst, .load T x, ty, pos, aft, g⟩ w (.ok (.value (.int k (xs.getD j 0))) w) := by
  unfold Run
  simp [execOp, hx, Instr.loadAt, Instr.sureAddr, run_load_cell (P := P) (T := T) ((hs j (by simpa using hj)).trans (ints_get k xs j hj))]
end
end Go.Kx
