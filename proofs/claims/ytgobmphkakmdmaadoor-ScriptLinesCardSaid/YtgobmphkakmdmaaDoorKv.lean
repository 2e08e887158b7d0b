/- Functions that the model stands in for: bytealg.Compare, slices.overlaps; clear of octets. Own work; nothing of a program is named here. -/
import Derived.Test.YtgobmphkakmdmaaDoorKr
import Derived.Test.YtgobmphkakmdmaaDoorKo
import Derived.Lib.BytesEntry
import Derived.Lib.Bytealg
import Derived.Lib.Overlaps
import Derived.Laws.Externs
import Derived.RangeFuncRecord
namespace Go.Kx
open Go
/-- A function that the model stands in for. -/
class TX (P : Program) (f : FuncId) (e : outParam (Array Value → Sem Value)) : Prop where
  h : ∃ fn, P.funcs[f]? = some fn ∧ (fn.name == "runtime.NumGoroutine") = false ∧ fn.body.isNone = true ∧ Extern.findNext fn = none ∧ Extern.find fn = some e
section
variable {P : Program} {n : Nat} {env : Env} {w : World} {dst : Option Tmp} {ty : TypeId} {pos : String} {aft : Array Edge} {g : Option (Nat × Bool)}
theorem x_callX {xs : List Operand} {ts : Array TypeId} {gf : FuncId} {e : Array Value → Sem Value} [hX : TX P gf e] {args : List Value} {v : Value} {w' : World} (ha : xs.map (ev n env) = args) (hr : (e args.toArray).run P w = .ok v w') :
    Run P n env ⟨dst, .call ⟨.value (.func gf), xs.toArray, ts⟩, ty, pos, aft, g⟩ w (.ok (.value v) w') := by
  subst ha
  obtain ⟨fn, h1, h2, h3, h4, h5⟩ := hX.h
  have hc : ∀ args, (callFunc gf args).run P w = _ := fun args => run_callFunc_extern h1 h2 h3 h4 h5 args w
  unfold Run
  simp [execOp, resolve, invoke, ev, Deferred.ofValue, hc, hr]
theorem bytesOf_bs8 (l : List UInt8) : Lib.bytesOf (bs8 l) = l := by
  unfold Lib.bytesOf bs8
  rw [List.map_map]
  conv => rhs; rw [← List.map_id l]
  apply List.map_congr_left
  intro x _
  simp [ub]
theorem run_bytesOf {a : Option Addr} {len cap : Nat} {l : List UInt8} {D : Nat → Prop} (hs : SlE w .u8 a len cap (bs8 l) D) : (Extern.Bytes.bytesOf (.slice a len cap)).run P w = .ok ⟨l.toArray⟩ w := by
  have hl := hs.len_eq
  simp only [bs8_length] at hl
  subst hl
  rcases hs.mem with hc | ⟨b, off, rfl, hlt, _, hseg⟩
  · have h0 : l.length = 0 := by have := hs.le; omega
    have : l = [] := List.eq_nil_of_length_eq_zero h0
    subst this
    cases a with
    | none => rfl
    | some a => rfl
  · have h := Lib.run_loadBytesX (P := P) w (bs8 l) ⟨b, off, none⟩ .empty (fun j x hj => by
      have hlt := (List.getElem?_eq_some_iff.1 hj).1
      rw [add_none, hseg j (by simpa using hlt)]
      simp only [ints, List.getElem?_map, hj, Option.map_some])
    rw [bs8_length] at h
    show (Extern.Bytes.loadBytes ⟨b, off, none⟩ l.length .empty).run P w = _
    rw [h, bytesOf_bs8]
    congr 1
    apply ByteArray.ext
    simp
theorem run_compare {a a' : Option Addr} {len cap len' cap' : Nat} {l l' : List UInt8} {D D' : Nat → Prop} (hs : SlE w .u8 a len cap (bs8 l) D) (hs' : SlE w .u8 a' len' cap' (bs8 l') D') :
    (Extern.BytealgCompare.compare [Value.slice a len cap, .slice a' len' cap'].toArray).run P w = .ok (.int .i64 (Lib.compareBytes l l')) w := by
  change Sem.run P (do pure (goInt (Extern.BytealgCompare.cmp (← Extern.Bytes.bytesOf (.slice a len cap)) (← Extern.Bytes.bytesOf (.slice a' len' cap'))))) w = _
  simp only [Sem.run_bind, run_bytesOf hs, run_bytesOf hs', Result.andThen_ok, Sem.run_pure]
  rw [Lib.cmp_eq]
  rfl
/-- A function value with bound values, called. -/
theorem x_callV {x : Operand} {xs : List Operand} {ts : Array TypeId} {gf : FuncId} [TFn P gf] {lb : List Value} (hg : ev n env x = .func (.func gf) #[] lb.toArray) :
    Run P n env ⟨dst, .call ⟨.value x, xs.toArray, ts⟩, ty, pos, aft, g⟩ w (.ok (.enter gf ((xs.map (ev n env)) ++ lb).toArray) w) := by
  unfold Run
  simp [execOp, resolve, invoke, hg, Deferred.ofValue, run_callFunc]
theorem zeroCells_rep {z : Value} (hz : one z = true) (m : Nat) : (Builtin.zeroCells z.cells m).toList = List.replicate m z := by
  have hcells : z.cells = #[z] := by cases z <;> simp_all [one, Value.cells]
  unfold Builtin.zeroCells
  rw [hcells]
  apply List.ext_getElem
  · simp
  · intro i h1 h2
    simp [Nat.mod_one]
theorem rep_one {z : Value} (hz : one z = true) (m : Nat) : (List.replicate m z).all (·.oneCell') = true := by
  rw [List.all_eq_true]
  intro v hv
  rw [List.eq_of_mem_replicate hv]
  cases z <;> simp_all [one, Value.oneCell']
/-- clear of a slice of cells. -/
theorem r_clear {T E : TypeId} {z : Value} [hT : TU P T (.slice E)] [hZ : TZ P E z] {x : Operand} {b off m cap : Nat} {B : TypeId} {cs : List Value} (hx : ev n env x = .slice (some ⟨b, off, none⟩) m cap) (h0 : 0 < m)
    (hb : Blk w b B (0, 0) cs) (ho : off + m ≤ cs.length) (hz : one z = true) :
    ∃ v w', Run P n env ⟨dst, .call ⟨.builtin .clear, #[x], #[T]⟩, ty, pos, aft, g⟩ w (.ok (.value v) w') ∧ v = .tuple #[] ∧ Eff w w' b (.cells (lay cs off (List.replicate m z)).toArray B (0, 0)) := by
  obtain ⟨w', hr, hw⟩ := run_storeCells_eff (P := P) (b := b) (off := off) (E := B) (List.replicate m z) 0 cs w hb (by simpa using ho) (fun v hv => (List.all_eq_true.1 (rep_one hz m)) v hv)
  refine ⟨_, w', ?_, rfl, hw⟩
  obtain ⟨k, rfl⟩ : ∃ k, m = k + 1 := ⟨m - 1, by omega⟩
  unfold Run
  simp [execOp, hx, resolve, invoke, builtin, run_underlying hT.h, Builtin.clear_, run_zeroValue, zeroCells_rep hz, hr]
/-- clear of nothing. -/
theorem x_clear0 {T E : TypeId} [hT : TU P T (.slice E)] {x : Operand} {a : Option Addr} {cap : Nat} (hx : ev n env x = .slice a 0 cap) :
    Run P n env ⟨dst, .call ⟨.builtin .clear, #[x], #[T]⟩, ty, pos, aft, g⟩ w (.ok (.value (.tuple #[])) w) := by
  unfold Run
  cases a <;> simp [execOp, hx, resolve, invoke, builtin, run_underlying hT.h, Builtin.clear_]
end
theorem eff_put {w : World} {l : Nat} {o : Obj} (h : l < w.heap.size) : Eff w (w.putObj l o) l o :=
  ⟨rfl, rfl, rfl, by simp, by simpa using h, World.putObj_heap_same h, fun j hj _ => World.putObj_heap_other hj⟩
theorem Blk.not_loop {w : World} {b l : Nat} {E : TypeId} {fz : Nat × Nat} {cs : List Value} {o : Loop} (h : Blk w b E fz cs) (hl : w.heap[l]? = some (.loop o)) : b ≠ l := by
  rintro rfl
  unfold Blk at h
  rw [hl] at h; cases h
theorem Blk.not_def {w : World} {b l : Nat} {E : TypeId} {fz : Nat × Nat} {cs : List Value} {o : Option (List Deferred)} (h : Blk w b E fz cs) (hl : w.heap[l]? = some (.deferred o)) : b ≠ l := by
  rintro rfl
  unfold Blk at h
  rw [hl] at h; cases h
theorem Seg.not_loop {w : World} {b off l : Nat} {vs : List Value} {o : Loop} (h : Seg w b off vs) (h0 : 0 < vs.length) (hl : w.heap[l]? = some (.loop o)) : b ≠ l := by
  rintro rfl
  have h1 := h 0 h0
  rw [List.getElem?_eq_getElem h0] at h1
  simp [World.cell?, hl] at h1
theorem Blk.ne {w : World} {b b' : Nat} {E E' : TypeId} {fz fz' : Nat × Nat} {cs cs' : List Value} (h : Blk w b E fz cs) (h' : Blk w b' E' fz' cs') (he : E ≠ E') : b ≠ b' := by
  rintro rfl
  unfold Blk at h h'
  rw [h] at h'
  injection h' with h'
  injection h' with _ h'
  exact he h'
theorem Own.blk_of {w : World} {E : TypeId} {s : Nat} {a : Option Addr} {m cap : Nat} {cs : List Value} (h : Own w E s a m cap cs) {j : Nat} (hj : blkOf a j) : ∃ cs', Blk w j E (0, 0) cs' := by
  obtain ⟨_, _, _, h4⟩ := h
  rcases h4 with ⟨rfl, _⟩ | ⟨b, sp, rfl, hB, _⟩
  · simp [blkOf] at hj
  · simp [blkOf] at hj; subst hj; exact ⟨_, hB⟩
theorem Own.ne {w : World} {E E' : TypeId} {s : Nat} {a : Option Addr} {m cap : Nat} {cs cs' : List Value} {b : Nat} {fz : Nat × Nat} (h : Own w E s a m cap cs) (h' : Blk w b E' fz cs') (he : E ≠ E') : ¬ blkOf a b := fun hj => by
  obtain ⟨_, hB⟩ := h.blk_of hj
  exact hB.ne h' he rfl
theorem lt_of_some {w : World} {l : Nat} {o : Obj} (hl : w.heap[l]? = some o) : l < w.heap.size := (Array.getElem?_eq_some_iff.1 hl).1
/-- A round begins. -/
theorem At_beginRoundE {P : Program} {n : Nat} {R : Ending → World → Prop} {k : List Item} {env : Env} {w : World} {fn : FuncId} {l : Nat} {ds : List Deferred} {r : Loop} (hl : w.heap[l]? = some (.loop r)) (hr : r.state = .ready)
    (h : ∀ w', Eff w w' l (.loop { r with state := .busy }) → At P ⟨fn, some l, ds⟩ n R k env w') : At P ⟨fn, some l, ds⟩ n R (.beginRound :: k) env w :=
  At_beginRound hl hr (h _ (eff_put (lt_of_some hl)))
end Go.Kx
