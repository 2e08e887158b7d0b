/- Strings of octets: what the operations on them do (of no seat). Own work; nothing of a program is named here. -/
import Derived.Test.YtgobmphkakmdmaaDoorKr
import Derived.Test.YtgobmphkakmdmaaDoorKl
import Derived.Test.YtgobmphkakmdmaaDoorKy
import Derived.Test.YtgobmphkakmdmaaDoorKx
import Derived.Laws.IdiomStrings
import Derived.Laws.Strings
set_option linter.unusedVariables false
namespace Go.Kx
open Go
def strV (l : List UInt8) : Value := .string ⟨l.toArray⟩
theorem app_strs (l m : List UInt8) : (⟨l.toArray⟩ : ByteArray) ++ ⟨m.toArray⟩ = ⟨(l ++ m).toArray⟩ := by
  apply ByteArray.ext
  simp
section
variable {P : Program} {f : Fm} {n : Nat} {R : Ending → World → Prop} {k : List Item} {env : Env} {w : World} {dst : Option Tmp} {d : Tmp} {ty : TypeId} {pos : String} {aft : Array Edge} {g : Option (Nat × Bool)} {pre rest : List Oper}
theorem x_conv_bs {S T E : TypeId} {x : Operand} {a : Option Addr} {len cap : Nat} {l : List UInt8} {D : Nat → Prop} [hS : TU P S (.slice E)] [hE : TU P E (.int .u8)] [hT : TU P T .string] (hx : ev n env x = .slice a len cap) (hs : SlE w .u8 a len cap (bs8 l) D) :
    Run P n env ⟨dst, .convert S T x, ty, pos, aft, g⟩ w (.ok (.value (strV l)) w) := by
  have hl := hs.len_eq
  simp only [bs8_length] at hl
  subst hl
  have hr : (convert S T (.slice a l.length cap)).run P w = .ok (.string ⟨l.toArray⟩) w := by
    rcases hs.mem with hc | ⟨b, off, rfl, hlt, _, hseg⟩
    · have h0 : l.length = 0 := by have := hs.le; omega
      have : l = [] := List.eq_nil_of_length_eq_zero h0
      subst this
      cases a with
      | none => exact run_convert_bytes_nil w S E hS.h hE.h 0 cap T hT.h
      | some a => exact run_convert_bytes_back w S T E a cap [] hS.h hE.h hT.h (fun j hj => by simp at hj)
    · refine run_convert_bytes_back w S T E ⟨b, off, none⟩ cap l hS.h hE.h hT.h (fun j hj => ?_)
      rw [add_none, hseg j (by simpa using hj)]
      simp [ints, bs8, ub, hj]
  unfold Run
  simp only [execOp, hx, Sem.run_bind, hr, Result.andThen_ok, Sem.run_pure]
  rfl
theorem x_cat {x y : Operand} {T T' : TypeId} {l m : List UInt8} (hx : ev n env x = strV l) (hy : ev n env y = strV m) (h : l.length + m.length ≤ 9223372036854775807) :
    Run P n env ⟨dst, .binOp .add T x y T', ty, pos, aft, g⟩ w (.ok (.value (strV (l ++ m))) w) := by
  have h1 : ¬ (((l.length + m.length : Nat) : Int) > IntKind.i64.max) := by
    show ¬ (((l.length + m.length : Nat) : Int) > 9223372036854775807)
    omega
  have e : (Op.stringOp .add ⟨l.toArray⟩ ⟨m.toArray⟩).run P w = .ok (strV (l ++ m)) w := by
    unfold Op.stringOp
    simp only [ByteArray.size, List.size_toArray]
    rw [if_neg h1, app_strs]; rfl
  unfold Run
  simp only [execOp, hx, hy, strV]
  simp [eqGuard, binOp, e]
  rfl
theorem x_len_str {T : TypeId} {x : Operand} {l : List UInt8} [hT : TU P T .string] (hx : ev n env x = strV l) :
    Run P n env ⟨dst, .call ⟨.builtin .len, #[x], #[T]⟩, ty, pos, aft, g⟩ w (.ok (.value (.int .i64 (l.length : Int))) w) := by
  have h := x_len_string (P := P) (w := w) (dst := dst) (ty := ty) (pos := pos) (aft := aft) (g := g) (T := T) hx
  simpa [ByteArray.size] using h
theorem s_lns {T : TypeId} {x : Operand} {l : List UInt8} [TU P T .string] (h : AtR P f n R (⟨some d, .call ⟨.builtin .len, #[x], #[T]⟩, ty, pos, aft, none⟩ :: pre) rest k (upd env d (.int .i64 (l.length : Int))) w) (hx : ev n env x = strV l := by exact rfl) :
    AtR P f n R pre (⟨some d, .call ⟨.builtin .len, #[x], #[T]⟩, ty, pos, aft, none⟩ :: rest) k env w := s_val (x_len_str hx) h
theorem x_index_str {T : TypeId} {x ix : Operand} {kk : IntKind} {i : Nat} {l : List UInt8} [hT : TU P T .string] (hx : ev n env x = strV l) (hi : ev n env ix = .int kk (i : Int)) (h : i < l.length) :
    Run P n env ⟨dst, .index T x ix, ty, pos, aft, g⟩ w (.ok (.value (.int .u8 (ub (l.getD i 0)))) w) := by
  have e : (⟨l.toArray⟩ : ByteArray)[i]? = some (l.getD i 0) := by
    have hs : i < (⟨l.toArray⟩ : ByteArray).size := by simpa [ByteArray.size] using h
    rw [getElem?_pos (⟨l.toArray⟩ : ByteArray) i hs]
    simp [ByteArray.getElem_eq_getElem_data, List.getD, h]
  unfold Run
  simp [execOp, hx, hi, strV, Instr.index, asIntOf, run_underlying hT.h, e, ub]
/-- A string as octets of their own. -/
theorem r_conv_sb {S T E : TypeId} {x : Operand} {l : List UInt8} [hS : TU P S .string] [hT : TU P T (.slice E)] [hE : TU P E (.int .u8)] (hx : ev n env x = strV l) (hl : l.length ≤ maxLen) :
    ∃ v w', Run P n env ⟨dst, .convert S T x, ty, pos, aft, g⟩ w (.ok (.value v) w') ∧ ∃ b cap, v = .slice (some ⟨b, 0, none⟩) l.length cap ∧ b = w.heap.size ∧ Sl w' .u8 (some ⟨b, 0, none⟩) l.length cap (bs8 l) ∧ Kp No w w' := by
  have hr := run_bytes_of_string (P := P) w S T E ⟨l.toArray⟩ hS.h hT.h hE.h
  have hsz : (⟨l.toArray⟩ : ByteArray).size = l.length := by simp [ByteArray.size]
  rw [hsz] at hr
  have hge := grownCap_ge w l.length 0 E
  have hle := grownCap_le_maxLen w l.length 0 E hl
  obtain ⟨W', hW, e⟩ : ∃ W', W' = w.drew.alloc (.cells (bytesRow ⟨l.toArray⟩ (grownCap w l.length 0 E)) E ((bytesRow ⟨l.toArray⟩ (grownCap w l.length 0 E)).size, (bytesRow ⟨l.toArray⟩ (grownCap w l.length 0 E)).size + 1)) ∧ Eff w.drew W' w.heap.size (.cells (bytesRow ⟨l.toArray⟩ (grownCap w l.length 0 E)) E ((bytesRow ⟨l.toArray⟩ (grownCap w l.length 0 E)).size, (bytesRow ⟨l.toArray⟩ (grownCap w l.length 0 E)).size + 1)) := ⟨_, rfl, eff_push w.drew _⟩
  rw [← hW] at hr
  have hrow : bytesRow ⟨l.toArray⟩ (grownCap w l.length 0 E) = (ints .u8 (bs8 l) ++ List.replicate (grownCap w l.length 0 E - l.length) (Value.int .u8 0)).toArray := by
    apply Array.ext'
    simp [bytesRow, ints, bs8, ub, hsz]
  refine ⟨_, _, ?_, w.heap.size, grownCap w l.length 0 E, rfl, rfl, ⟨by simp, hge, by simpa [maxLen] using hle, .inr ⟨_, 0, rfl, e.lt, fun j hj => ?_⟩⟩, ⟨e.os, e.tape, e.output, e.size, fun j _ hl => e.other j (Nat.ne_of_lt hl) hl⟩⟩
  · unfold Run
    simp only [execOp, hx, strV, Sem.run_bind, hr, Result.andThen_ok, Sem.run_pure]
  · have hB : Blk W' w.heap.size E ((bytesRow ⟨l.toArray⟩ (grownCap w l.length 0 E)).size, (bytesRow ⟨l.toArray⟩ (grownCap w l.length 0 E)).size + 1) (ints .u8 (bs8 l) ++ List.replicate (grownCap w l.length 0 E - l.length) (Value.int .u8 0)) := by
      unfold Blk
      rw [← hrow]
      exact e.here
    rw [Nat.zero_add]
    refine (hB.cell j).trans ?_
    rw [List.getElem?_append_left (by simpa using hj)]
theorem src_str {T : TypeId} {l : List UInt8} (hT : P.underlying T = some .string) (w : World) : Src P 1 T (strV l) l.length (ints .u8 (bs8 l)) w := by
  have h := Src.ofString w hT ⟨l.toArray⟩
  have e : byteCells ⟨l.toArray⟩ = ints .u8 (bs8 l) := by simp [byteCells, ints, bs8, ub]
  have hsz : (⟨l.toArray⟩ : ByteArray).size = l.length := by simp [ByteArray.size]
  rw [e, hsz] at h
  exact h
theorem str_toList (l : List UInt8) : (⟨l.toArray⟩ : ByteArray).toList = l := by rw [ByteArray.toList_eq]
theorem list_beq (l m : List UInt8) : (l == m) = decide (l = m) := by
  by_cases h : l = m
  · subst h; simp
  · simp [h]
theorem x_eql_str {x y : Operand} {T T' : TypeId} {l m : List UInt8} [hT : TU P T .string] (hx : ev n env x = strV l) (hy : ev n env y = strV m) :
    Run P n env ⟨dst, .binOp .eql T x y T', ty, pos, aft, g⟩ w (.ok (.value (.bool (decide (l = m)))) w) := by
  unfold Run
  simp only [execOp, hx, hy, strV]
  have e : (Op.stringOp .eql ⟨l.toArray⟩ ⟨m.toArray⟩).run P w = .ok (.bool (decide (l = m))) w := by
    unfold Op.stringOp
    simp only [str_toList, list_beq]
    rfl
  simp [eqGuard_at_string, binOp, e]
theorem x_neq_str {x y : Operand} {T T' : TypeId} {l m : List UInt8} [hT : TU P T .string] (hx : ev n env x = strV l) (hy : ev n env y = strV m) :
    Run P n env ⟨dst, .binOp .neq T x y T', ty, pos, aft, g⟩ w (.ok (.value (.bool (decide (l ≠ m)))) w) := by
  unfold Run
  simp only [execOp, hx, hy, strV]
  have e : (Op.stringOp .neq ⟨l.toArray⟩ ⟨m.toArray⟩).run P w = .ok (.bool (!decide (l = m))) w := by
    unfold Op.stringOp
    simp only [str_toList, list_beq]
    rfl
  simp [eqGuard_at_string, binOp, e]
theorem x_slice_str_lh {T : TypeId} {x lo hi : Operand} {kl kk : IntKind} {a m : Nat} {l : List UInt8} [hT : TU P T .string] (hx : ev n env x = strV l) (hlo : ev n env lo = .int kl (a : Int)) (hh : ev n env hi = .int kk (m : Int)) (h1 : a ≤ m) (h : m ≤ l.length) :
    Run P n env ⟨dst, .slice T x (some lo) (some hi) none, ty, pos, aft, g⟩ w (.ok (.value (strV ((l.drop a).take (m - a)))) w) := by
  have hsz : (⟨l.toArray⟩ : ByteArray).size = l.length := by simp [ByteArray.size]
  have hb : ∀ c, (Instr.sliceBound (.int kk (m : Int)) l.length c).run P w = .ok m w := fun c => by
    have := run_sliceBound (P := P) (w := w) kk (m : Int) l.length c (by omega) (by omega)
    simpa using this
  have hb2 : ∀ c, (Instr.sliceBound (.int kl (a : Int)) m c).run P w = .ok a w := fun c => by
    have := run_sliceBound (P := P) (w := w) kl (a : Int) m c (by omega) (by omega)
    simpa using this
  have e : (⟨l.toArray⟩ : ByteArray).extract a m = ⟨((l.drop a).take (m - a)).toArray⟩ := by
    apply ByteArray.ext
    simp [ByteArray.data_extract]
  unfold Run
  simp [execOp, hx, hh, hlo, strV, Instr.sliceAt, Instr.slice, run_underlying hT.h, Instr.sliceBounds, hb, hb2, hsz, e]
theorem x_slice_str_l {T : TypeId} {x lo : Operand} {kl : IntKind} {a : Nat} {l : List UInt8} [hT : TU P T .string] (hx : ev n env x = strV l) (hlo : ev n env lo = .int kl (a : Int)) (h : a ≤ l.length) :
    Run P n env ⟨dst, .slice T x (some lo) none none, ty, pos, aft, g⟩ w (.ok (.value (strV (l.drop a))) w) := by
  have hsz : (⟨l.toArray⟩ : ByteArray).size = l.length := by simp [ByteArray.size]
  have hb2 : ∀ c, (Instr.sliceBound (.int kl (a : Int)) l.length c).run P w = .ok a w := fun c => by
    have := run_sliceBound (P := P) (w := w) kl (a : Int) l.length c (by omega) (by omega)
    simpa using this
  have e : (⟨l.toArray⟩ : ByteArray).extract a l.length = ⟨(l.drop a).toArray⟩ := by
    apply ByteArray.ext
    simp [ByteArray.data_extract]
    exact List.take_of_length_le (by simp)
  unfold Run
  simp [execOp, hx, hlo, strV, Instr.sliceAt, Instr.slice, run_underlying hT.h, Instr.sliceBounds, hb2, hsz, e]
theorem x_slice_str_h {T : TypeId} {x hi : Operand} {kk : IntKind} {m : Nat} {l : List UInt8} [hT : TU P T .string] (hx : ev n env x = strV l) (hh : ev n env hi = .int kk (m : Int)) (h : m ≤ l.length) :
    Run P n env ⟨dst, .slice T x none (some hi) none, ty, pos, aft, g⟩ w (.ok (.value (strV (l.take m))) w) := by
  have hsz : (⟨l.toArray⟩ : ByteArray).size = l.length := by simp [ByteArray.size]
  have hb : ∀ c, (Instr.sliceBound (.int kk (m : Int)) l.length c).run P w = .ok m w := fun c => by
    have := run_sliceBound (P := P) (w := w) kk (m : Int) l.length c (by omega) (by omega)
    simpa using this
  have e : (⟨l.toArray⟩ : ByteArray).extract 0 m = ⟨(l.take m).toArray⟩ := by
    apply ByteArray.ext
    simp [ByteArray.data_extract]
  unfold Run
  simp [execOp, hx, hh, strV, Instr.sliceAt, Instr.slice, run_underlying hT.h, Instr.sliceBounds, hb, hsz, e]
/-- A string's octets copied. -/
theorem r_copy_strA {T T2 E E2 : TypeId} [hT : TU P T (.slice E2)] [hs : TSz P E2 1] {x y : Operand} {b off dl dc : Nat} {cs : List Value} {l : List UInt8} (hx : ev n env x = .slice (some ⟨b, off, none⟩) dl dc) (hy : ev n env y = strV l)
    (hl : l.length = dl) (hb : Blk w b E (0, 0) cs) (ho : off + dl ≤ cs.length) :
    ∃ v w', Run P n env ⟨dst, .call ⟨.builtin .copy, #[x, y], #[T, T2]⟩, ty, pos, aft, g⟩ w (.ok (.value v) w') ∧ v = .int .i64 (dl : Nat) ∧ Eff w w' b (.cells (lay cs off (ints .u8 (bs8 l))).toArray E (0, 0)) := by
  subst hl
  obtain ⟨w', hr, hw⟩ := run_storeCells_eff (P := P) (b := b) (off := off) (E := E) (ints .u8 (bs8 l)) 0 cs w hb (by simp; omega) (fun v hv => (List.all_eq_true.1 (ints_one _ _)) v hv)
  have hby : byteCells ⟨l.toArray⟩ = ints .u8 (bs8 l) := by
    simp [byteCells, ints, bs8, ub]
  have h := firstCells_string (P := P) ⟨l.toArray⟩ w
  rw [hby] at h
  have hsz : (⟨l.toArray⟩ : ByteArray).size = l.length := rfl
  rw [hsz] at h
  refine ⟨_, w', ?_, rfl, hw⟩
  unfold Run
  simp [execOp, hx, hy, strV, resolve, invoke, builtin, run_underlying hT.h, Builtin.copy_, Builtin.lenOf, run_sizeOf hs.h, goInt, hsz, h, hr]
/-- A slice made. -/
theorem r_make1 {T E : TypeId} {z : Value} {y : Nat} [hT : TU P T (.slice E)] [TZ P E z] [TSz P E 1] [TBy P E y]
    {x c : Operand} {kl kc : IntKind} {l cp : Int} (hx : ev n env x = .int kl l) (hc : ev n env c = .int kc cp) (h0 : 0 ≤ l) (h1 : l ≤ cp) (hz : one z = true) (hb : (y : Int) * cp ≤ 281474976710656) (h63 : cp ≤ 9223372036854775807) :
    ∃ v w', Run P n env ⟨dst, .makeSlice T x c, ty, pos, aft, g⟩ w (.ok (.value v) w') ∧ ∃ b, v = .slice (some ⟨b, 0, none⟩) l.toNat cp.toNat ∧ b = w.heap.size ∧ Eff w w' b (.cells (List.replicate cp.toNat z).toArray E (0, 0)) := by
  obtain ⟨i, hi, hiz, hs, hy⟩ := info_of (P := P) (T := E) (z := z) (s := 1) (y := y)
  have hr := run_make (P := P) w T E i z hT.h hi hiz kl kc l cp h0 h1 (by rw [hy]; exact hb) h63
  have hcells : z.cells = #[z] := by cases z <;> simp_all [one, Value.cells]
  rw [hs, hcells, Nat.mul_one, madeCells_rep] at hr
  refine ⟨.slice (some ⟨w.heap.size, 0, none⟩) l.toNat cp.toNat, w.alloc (.cells (List.replicate cp.toNat z).toArray E), ?_, _, rfl, rfl, eff_push w _⟩
  unfold Run
  simp [execOp, hx, hc, hr]
end
end Go.Kx
