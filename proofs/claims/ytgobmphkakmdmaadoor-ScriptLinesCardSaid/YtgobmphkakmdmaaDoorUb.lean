/- Ranges over strings, interface values, strings.Builder's parts: what the operations do (of no seat). Own work; nothing of a program is named here. -/
import Derived.Test.YtgobmphkakmdmaaDoorUs
import Derived.Test.YtgobmphkakmdmaaDoorKs
import Derived.Stop.IfaceNil
import Derived.Laws.RangeString
import Derived.Lib.UnsafeStr
import Derived.Lib.MakeNoZero
import Derived.Lib.Builder
import Derived.Lib.Bytealg
import Derived.Laws.Externs
set_option linter.unusedVariables false
namespace Go.Kx
open Go
section
variable {P : Program} {f : Fm} {n : Nat} {R : Ending → World → Prop} {k : List Item} {env : Env} {w : World} {dst : Option Tmp} {d : Tmp} {ty : TypeId} {pos : String} {aft : Array Edge} {g : Option (Nat × Bool)} {pre rest : List Oper}
theorem Blk.seg {w : World} {b : Nat} {E : TypeId} {fz : Nat × Nat} {cs : List Value} (h : Blk w b E fz cs) : Seg w b 0 cs := fun j _ => by rw [Nat.zero_add]; exact h.cell j
/-- What an iterator over a string stands at. -/
def It (w : World) (b : Nat) (l : List UInt8) (p : Nat) : Prop := w.heap[b]? = some (.stringIter ⟨l.toArray⟩ p)
theorem It.kp {S : Nat → Prop} {w w' : World} {b p : Nat} {l : List UInt8} (h : It w b l p) (hk : Kp S w w') (hb : ¬ S b) : It w' b l p := by
  unfold It at *
  rw [hk.keep b hb (Array.getElem?_eq_some_iff.1 h).1]; exact h
theorem It.lt {w : World} {b p : Nat} {l : List UInt8} (h : It w b l p) : b < w.heap.size := (Array.getElem?_eq_some_iff.1 h).1
theorem r_range {T : TypeId} {x : Operand} {l : List UInt8} [hT : TU P T .string] (hx : ev n env x = strV l) :
    ∃ v w', Run P n env ⟨dst, .range T x, ty, pos, aft, g⟩ w (.ok (.value v) w') ∧ ∃ b, v = .pointer (some ⟨b, 0, none⟩) ∧ b = w.heap.size ∧ It w' b l 0 ∧ Kp No w w' := by
  refine ⟨.pointer (some ⟨w.heap.size, 0, none⟩), w.alloc (.stringIter ⟨l.toArray⟩ 0), ?_, _, rfl, rfl, ?_, (eff_push w _).kp (.inr (Nat.le_refl _))⟩
  · unfold Run
    simp [execOp, hx, strV, Instr.range, run_underlying hT.h]
  · exact (eff_push w _).here
theorem r_next {x : Operand} {b p : Nat} {l : List UInt8} (hx : ev n env x = .pointer (some ⟨b, 0, none⟩)) (h : It w b l p) (hp : p < l.length) (ha : (l.getD p 0).toNat < 128) :
    ∃ v w', Run P n env ⟨dst, .next x true, ty, pos, aft, g⟩ w (.ok (.value v) w') ∧ v = .tuple [.bool true, .int .i64 (p : Int), .int .i32 ((l.getD p 0).toNat : Int)].toArray ∧ It w' b l (p + 1) ∧ Kp (fun j => j = b) w w' := by
  have hlt := h.lt
  have hsz : p < (⟨l.toArray⟩ : ByteArray).size := by simpa [ByteArray.size] using hp
  have h0 : (⟨l.toArray⟩ : ByteArray).get! (p + 0) = l.getD p 0 := by
    simp [ByteArray.get!, List.getD, hp]
  have hd : Utf8.decode ⟨l.toArray⟩ p = ((l.getD p 0).toNat, 1) := by
    unfold Utf8.decode
    simp only [h0]
    rw [if_pos (by omega)]
  have e := eff_put (w := w) (o := .stringIter ⟨l.toArray⟩ (p + 1)) hlt
  refine ⟨_, w.putObj b (.stringIter ⟨l.toArray⟩ (p + 1)), ?_, rfl, e.here, e.kp (.inl rfl)⟩
  unfold It at h
  have g0 : (getObj b).run P w = .ok (.stringIter ⟨l.toArray⟩ p) w := by simp [getObj, Sem.run, h]
  have g1 : (setObj b (.stringIter ⟨l.toArray⟩ (p + 1))).run P w = .ok () (w.putObj b (.stringIter ⟨l.toArray⟩ (p + 1))) := by
    simp [setObj, Sem.run, h, World.putObj]
  have e : (Instr.next (.pointer (some ⟨b, 0, none⟩)) true ty).run P w = .ok (.tuple #[.bool true, .int .i64 (p : Int), .int .i32 ((l.getD p 0).toNat : Int)]) (w.putObj b (.stringIter ⟨l.toArray⟩ (p + 1))) := by
    simp only [Instr.next, Sem.run_bind, g0, Result.andThen, hsz, if_true, hd, g1]
    rfl
  unfold Run
  simp only [execOp, hx, Sem.run_bind, e, Result.andThen_ok, Sem.run_pure]
theorem x_next_end {x : Operand} {b : Nat} {l : List UInt8} (hx : ev n env x = .pointer (some ⟨b, 0, none⟩)) (h : It w b l l.length) :
    Run P n env ⟨dst, .next x true, ty, pos, aft, g⟩ w (.ok (.value (.tuple [.bool false].toArray)) w) := by
  have hsz : ¬ l.length < (⟨l.toArray⟩ : ByteArray).size := by
    have : (⟨l.toArray⟩ : ByteArray).size = l.length := rfl
    omega
  unfold It at h
  have g0 : (getObj b).run P w = .ok (.stringIter ⟨l.toArray⟩ l.length) w := by simp [getObj, Sem.run, h]
  have e : (Instr.next (.pointer (some ⟨b, 0, none⟩)) true ty).run P w = .ok (.tuple #[.bool false]) w := by
    simp only [Instr.next, Sem.run_bind, g0, Result.andThen, hsz, if_false]
    rfl
  unfold Run
  simp only [execOp, hx, Sem.run_bind, e, Result.andThen_ok, Sem.run_pure]
theorem x_ifaceI {T : TypeId} {kk : IntKind} [hT : TU P T (.int kk)] {x : Operand} {v : Value} (hx : ev n env x = v) :
    Run P n env ⟨dst, .makeInterface T x, ty, pos, aft, g⟩ w (.ok (.value (.iface T v)) w) := by
  unfold Run
  simp [execOp, hx, Instr.makeInterface, run_underlying hT.h]
theorem x_ifaceP {T E : TypeId} [hT : TU P T (.pointer E)] {x : Operand} {v : Value} (hx : ev n env x = v) :
    Run P n env ⟨dst, .makeInterface T x, ty, pos, aft, g⟩ w (.ok (.value (.iface T v)) w) := by
  unfold Run
  simp [execOp, hx, Instr.makeInterface, run_underlying hT.h]
theorem x_eqlI {x y : Operand} {T T' t : TypeId} {v : Value} (hI : P.isIface T = true) (hx : ev n env x = .iface t v) (hy : ev n env y = .nilIface) :
    Run P n env ⟨dst, .binOp .eql T x y T', ty, pos, aft, g⟩ w (.ok (.value (.bool false)) w) := by
  unfold Run
  simp [execOp, hx, hy, eqGuard, run_eql_iface_nil w T hI]
theorem x_neqI {x y : Operand} {T T' t : TypeId} {v : Value} (hI : P.isIface T = true) (hx : ev n env x = .iface t v) (hy : ev n env y = .nilIface) :
    Run P n env ⟨dst, .binOp .neq T x y T', ty, pos, aft, g⟩ w (.ok (.value (.bool true)) w) := by
  unfold Run
  simp [execOp, hx, hy, eqGuard, run_neq_iface_nil w T hI]
theorem x_neqN {x : Operand} {T T' : TypeId} (hI : P.isIface T = true) (hx : ev n env x = .nilIface) :
    Run P n env ⟨dst, .binOp .neq T x (.const .nilIface) T', ty, pos, aft, g⟩ w (.ok (.value (.bool false)) w) := by
  unfold Run
  have hy : ev n env (.const .nilIface) = .nilIface := rfl
  simp [execOp, hx, hy, eqGuard_nil_constR, run_neq_nil_nil_at w T hI]
theorem x_neqPS {x y : Operand} {T T' E : TypeId} {s : Nat} {ad : Addr} [hT : TU P T (.pointer E)] [hs : TSz P E s] (hx : ev n env x = .pointer (some ad)) (hy : ev n env y = .pointer (some ad)) :
    Run P n env ⟨dst, .binOp .neq T x y T', ty, pos, aft, g⟩ w (.ok (.value (.bool false)) w) := by
  obtain ⟨i, hi, _⟩ : ∃ i, P.info? E = some i ∧ i.size = s := by
    have := hs.h
    cases h : P.info? E with
    | none => rw [h] at this; cases this
    | some i => exact ⟨i, rfl, by rw [h] at this; simpa using this⟩
  unfold Run
  simp [execOp, hx, hy, eqGuard, Lib.run_neq_ptr_same w ad hT.h hi]
/-- A builder in a block: what it holds; all that it may write lies from B on. -/
structure Bd (T E : TypeId) (B : Nat) (w : World) (b : Nat) (l : List UInt8) : Prop where
  base : B ≤ b
  at_ : ∃ p a cap, Blk w b T (0, 0) [p, .slice a l.length cap] ∧ (p = .pointer none ∨ p = .pointer (some ⟨b, 0, none⟩)) ∧ Own w E 1 a l.length cap (ints .u8 (bs8 l)) ∧ ∀ j, blkOf a j → j ≠ b ∧ B ≤ j
theorem x_toUnsafe {S T e E : TypeId} {s : Nat} {x : Operand} {b off : Nat} {fz : Nat × Nat} {cs : List Value} [hS : TU P S (.pointer e)] [hs : TSz P e s] (hT : P.underlying T = some .unsafePointer) (hx : ev n env x = .pointer (some ⟨b, off, none⟩))
    (hb : Blk w b E fz cs) (ho : off < cs.length) (h0 : s ≠ 0) : Run P n env ⟨dst, .convert S T x, ty, pos, aft, g⟩ w (.ok (.value (.pointer (some ⟨b, off, none⟩))) w) := by
  obtain ⟨i, hi, h1⟩ : ∃ i, P.info? e = some i ∧ i.size = s := by
    have := hs.h
    cases h : P.info? e with
    | none => rw [h] at this; cases this
    | some i => exact ⟨i, rfl, by rw [h] at this; simpa using this⟩
  have hsh : w.shape? b = some (E, cs.length) := by
    unfold Blk at hb
    simp [World.shape?, hb]
  have h := Lib.run_to_unsafe (P := P) w ⟨b, off, none⟩ hS.h hT hi (by rw [h1]; exact h0) hsh ho
  unfold Run
  simp only [execOp, hx, Sem.run_bind, h, Result.andThen_ok, Sem.run_pure]
theorem x_fromUnsafe {S T e E : TypeId} {s : Nat} {x : Operand} {b off : Nat} {fz : Nat × Nat} {cs : List Value} (hS : P.underlying S = some .unsafePointer) [hT : TU P T (.pointer e)] [hs : TSz P e s] (hx : ev n env x = .pointer (some ⟨b, off, none⟩))
    (hb : Blk w b E fz cs) (hl : liesAt P P.depth E (cs.length / P.cellsOf E) off e 1 = true) : Run P n env ⟨dst, .convert S T x, ty, pos, aft, g⟩ w (.ok (.value (.pointer (some ⟨b, off, none⟩))) w) := by
  obtain ⟨i, hi, h1⟩ : ∃ i, P.info? e = some i ∧ i.size = s := by
    have := hs.h
    cases h : P.info? e with
    | none => rw [h] at this; cases this
    | some i => exact ⟨i, rfl, by rw [h] at this; simpa using this⟩
  have hsh : w.shape? b = some (E, cs.length) := by
    unfold Blk at hb
    simp [World.shape?, hb]
  have h := Lib.run_from_unsafe (P := P) w ⟨b, off, none⟩ hS hT.h hi hsh hl
  unfold Run
  simp only [execOp, hx, Sem.run_bind, h, Result.andThen_ok, Sem.run_pure]
/-- unsafe.SliceData of a slice. -/
theorem r_sliceData {x : Operand} {ts : Array TypeId} {a : Option Addr} {e E : TypeId} {s len cap : Nat} {cs : List Value} [hT : TU P ty (.pointer e)] (hx : ev n env x = .slice a len cap) (ho : Own w E s a len cap cs) :
    ∃ v w', Run P n env ⟨dst, .call ⟨.builtin .unsafeSliceData, #[x], ts⟩, ty, pos, aft, g⟩ w (.ok (.value v) w') ∧ ∃ q, v = .pointer q ∧ (0 < len → q = a) ∧ Kp No w w' := by
  have key : ∃ q w', (Builtin.unsafeSliceData_ ts ty #[.slice a len cap]).run P w = .ok (.pointer q) w' ∧ (0 < len → q = a) ∧ Kp No w w' := by
    cases a with
    | none => exact ⟨none, w, Lib.run_unsafeSliceData_nil w ts ty len cap, fun _ => rfl, .refl _ _⟩
    | some a =>
      by_cases h0 : cap = 0
      · subst h0
        obtain ⟨h1, h2, h3, h4⟩ := ho
        rcases h4 with ⟨h, _⟩ | ⟨b, sp, h, hb, hl⟩
        · cases h
        cases h
        have hb' := hb
        unfold Blk at hb'
        exact ⟨_, _, Lib.run_unsafeSliceData_zero w ts ty e hT.h ⟨b, 0, none⟩ len (E, (cs ++ sp).length) (by simp [World.shape?, hb']), fun h => by omega, (eff_push w _).kp (.inr (Nat.le_refl _))⟩
      · exact ⟨_, w, Lib.run_unsafeSliceData_row w ts ty a len cap h0, fun _ => rfl, .refl _ _⟩
  obtain ⟨q, w', e, h1, h2⟩ := key
  refine ⟨_, w', ?_, q, rfl, h1, h2⟩
  unfold Run
  simp [execOp, resolve, invoke, builtin, hx, e]
/-- unsafe.String of a row's first octets: they are frozen. -/
theorem r_unsafeStr {pt it e : TypeId} {x y : Operand} {a : Option Addr} {cap : Nat} {l : List UInt8} [hp : TU P pt (.pointer e)] (hc : P.cellsOf e = 1) (ho : Own w e 1 a l.length cap (ints .u8 (bs8 l))) {q : Option Addr} (hq : 0 < l.length → q = a) (hx : ev n env x = .pointer q) (hy : ev n env y = .int .i64 (l.length : Int)) :
    ∃ v w', Run P n env ⟨dst, .call ⟨.builtin .unsafeString, #[x, y], #[pt, it]⟩, ty, pos, aft, g⟩ w (.ok (.value v) w') ∧ v = strV l ∧ Kp (blkOf a) w w' := by
  obtain ⟨h1, h2, h3, h4⟩ := ho
  by_cases h0 : l = []
  · subst h0
    have e := Lib.run_unsafeString_none (P := P) w pt it ty q
    refine ⟨_, w, ?_, rfl, .refl _ _⟩
    unfold Run
    simp only [List.length_nil, Int.ofNat_zero] at hy
    simp [execOp, resolve, invoke, builtin, hx, hy, e, strV]
    rfl
  · obtain rfl := hq (by cases l; · exact absurd rfl h0
                         · simp)
    rcases h4 with ⟨rfl, hcap⟩ | ⟨b, sp, rfl, hb, hl⟩
    · exact absurd (List.eq_nil_of_length_eq_zero (by omega)) h0
    have hsh : w.shape? b = some (e, cap) := by
      have hb' := hb
      unfold Blk at hb'
      simp [World.shape?, hb']
      simpa using hl
    have e := Lib.run_unsafeString_row (P := P) w pt it ty e hp.h hc b cap hsh l h0 (by omega) (by simp only [maxLen] at h3; omega) (fun j x hj => by
      rw [add_none, Nat.zero_add, hb.cell, List.getElem?_append_left (by have := (List.getElem?_eq_some_iff.1 hj).1; simpa using this)]
      simp [ints, bs8, ub, hj])
    refine ⟨_, w.freeze ⟨b, 0, none⟩ l.length, ?_, rfl, ?_⟩
    · unfold Run
      simp [execOp, resolve, invoke, builtin, hx, hy, e, strV]
    · unfold World.freeze
      split
      · exact .refl _ _
      · refine ⟨rfl, rfl, rfl, by simp, fun j hj _ => ?_⟩
        have : ¬ b = j := fun h => hj (by simp [blkOf, h])
        simp only [Array.getElem?_modify]
        rw [if_neg this]
/-- A copy of nothing out of a slice that is nil. -/
theorem x_copy0 {T T2 E : TypeId} [hT : TU P T (.slice E)] [hs : TSz P E 1] {x y : Operand} {a : Option Addr} {cap : Nat} (hx : ev n env x = .slice a 0 cap) (hy : ev n env y = .slice none 0 0) :
    Run P n env ⟨dst, .call ⟨.builtin .copy, #[x, y], #[T, T2]⟩, ty, pos, aft, g⟩ w (.ok (.value (.int .i64 0)) w) := by
  unfold Run
  cases a <;> simp [execOp, hx, hy, resolve, invoke, builtin, run_underlying hT.h, Builtin.copy_, Builtin.lenOf, run_sizeOf hs.h, goInt, Builtin.firstCells, storeCells]
theorem At_ret3 {fn : Func} {t u s : Tmp} {v v2 v3 : Value} (hf : P.funcs[f.fn]? = some fn) (hr : fn.results = #[.tmp t, .tmp u, .tmp s]) (hv : ev n env (.tmp t) = v) (hv2 : ev n env (.tmp u) = v2) (hv3 : ev n env (.tmp s) = v3)
    (h : R (.returned (.tuple #[v, v2, v3])) w) (h0 : f.round = none := by rfl) (h1 : f.ds = [] := by rfl) : At P f n R (.code .ret :: k) env w := by
  refine At_ret hf ?_ h h0 h1
  have g1 := congrFun (eval_mkA n env) (.tmp t)
  have g2 := congrFun (eval_mkA n env) (.tmp u)
  have g3 := congrFun (eval_mkA n env) (.tmp s)
  have e1 : (mkA n env).tmps[t]?.getD undef = v := by rw [← hv, ← g1]; simp [Act.eval]
  have e2 : (mkA n env).tmps[u]?.getD undef = v2 := by rw [← hv2, ← g2]; simp [Act.eval]
  have e3 : (mkA n env).tmps[s]?.getD undef = v3 := by rw [← hv3, ← g3]; simp [Act.eval]
  simp [results, hr, e1, e2, e3]
end
end Go.Kx
