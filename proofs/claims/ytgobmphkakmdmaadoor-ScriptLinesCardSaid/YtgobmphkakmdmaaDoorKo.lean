/- Arrays in memory, copy, min, max, cap; loads of words and octets; steps of their own for words. Own work; nothing of a program is named here. -/
import Derived.Test.YtgobmphkakmdmaaDoorKn
namespace Go.Kx
open Go
section
variable {P : Program} {n : Nat} {env : Env} {w : World} {dst : Option Tmp} {ty : TypeId} {pos : String} {aft : Array Edge} {g : Option (Nat × Bool)}
theorem x_min {x y : Operand} {T T' : TypeId} {k : IntKind} {a b : Int} (hx : ev n env x = .int k a) (hy : ev n env y = .int k b) :
    Run P n env ⟨dst, .call ⟨.builtin .min, #[x, y], #[T, T']⟩, ty, pos, aft, g⟩ w (.ok (.value (.int k (min a b))) w) := by
  have e : (if b < a then b else a) = min a b := by omega
  unfold Run
  simp [execOp, hx, hy, resolve, invoke, builtin, Builtin.min_, Builtin.min2, e]
theorem x_max {x y : Operand} {T T' : TypeId} {k : IntKind} {a b : Int} (hx : ev n env x = .int k a) (hy : ev n env y = .int k b) :
    Run P n env ⟨dst, .call ⟨.builtin .max, #[x, y], #[T, T']⟩, ty, pos, aft, g⟩ w (.ok (.value (.int k (max a b))) w) := by
  have e : (if a < b then b else a) = max a b := by omega
  unfold Run
  simp [execOp, hx, hy, resolve, invoke, builtin, Builtin.max_, Builtin.max2, e]
theorem x_cap_slice {T E : TypeId} {x : Operand} {a : Option Addr} {l c : Nat} [hT : TU P T (.slice E)] (hx : ev n env x = .slice a l c) :
    Run P n env ⟨dst, .call ⟨.builtin .cap, #[x], #[T]⟩, ty, pos, aft, g⟩ w (.ok (.value (.int .i64 c)) w) := by
  unfold Run
  simp [execOp, hx, resolve, invoke, builtin, run_underlying hT.h, Builtin.cap_, goInt]
theorem x_neg64 {x : Operand} {T : TypeId} {a : Int} (hx : ev n env x = .int .i64 a) (h1 : -9223372036854775807 ≤ a) (h2 : a ≤ 9223372036854775807) :
    Run P n env ⟨dst, .unOp .neg T x, ty, pos, aft, g⟩ w (.ok (.value (.int .i64 (0 - a))) w) := by
  have h := x_neg (P := P) (w := w) (dst := dst) (ty := ty) (pos := pos) (aft := aft) (g := g) (T := T) hx
  rw [i64_in (by omega) (by omega)] at h
  exact h
/-- A slice of an array behind a pointer. -/
theorem x_slice_arr_l {T E : TypeId} {m s : Nat} [hT : TU P T (.array m E)] [hs : TSz P E s] {x lo : Operand} {b off : Nat} {k : IntKind} {j : Nat}
    (hx : ev n env x = .pointer (some ⟨b, off, none⟩)) (hl : ev n env lo = .int k (j : Int)) (h : j < m) :
    Run P n env ⟨dst, .slice T x (some lo) none none, ty, pos, aft, g⟩ w (.ok (.value (.slice (some ⟨b, off + j * s, none⟩) (m - j) (m - j))) w) := by
  have hb : (Instr.sliceBound (.int k (j : Int)) m .sliceB).run P w = .ok j w := by
    have := run_sliceBound (P := P) (w := w) k (j : Int) m .sliceB (by omega) (by omega)
    simpa using this
  have hne : ¬ m = j := by omega
  unfold Run
  simp [execOp, hx, hl, Instr.sliceAt, run_underlying hT.h, Instr.sureAddr, Instr.sliceBounds, hb, run_sizeOf hs.h, add_none, hne]
theorem x_slice_arr_h {T E : TypeId} {m s : Nat} [hT : TU P T (.array m E)] [hs : TSz P E s] {x hi : Operand} {b off : Nat} {k : IntKind} {j : Nat}
    (hx : ev n env x = .pointer (some ⟨b, off, none⟩)) (hl : ev n env hi = .int k (j : Int)) (h : j ≤ m) :
    Run P n env ⟨dst, .slice T x none (some hi) none, ty, pos, aft, g⟩ w (.ok (.value (.slice (some ⟨b, off, none⟩) j m)) w) := by
  have hb : ∀ c, (Instr.sliceBound (.int k (j : Int)) m c).run P w = .ok j w := fun c => by
    have := run_sliceBound (P := P) (w := w) k (j : Int) m c (by omega) (by omega)
    simpa using this
  unfold Run
  simp [execOp, hx, hl, Instr.sliceAt, run_underlying hT.h, Instr.sureAddr, Instr.sliceBounds, hb, run_sizeOf hs.h, add_none]
theorem x_slice_arr {T E : TypeId} {m s : Nat} [hT : TU P T (.array m E)] [hs : TSz P E s] {x : Operand} {b off : Nat}
    (hx : ev n env x = .pointer (some ⟨b, off, none⟩)) :
    Run P n env ⟨dst, .slice T x none none none, ty, pos, aft, g⟩ w (.ok (.value (.slice (some ⟨b, off, none⟩) m m)) w) := by
  unfold Run
  simp [execOp, hx, Instr.sliceAt, run_underlying hT.h, Instr.sureAddr, Instr.sliceBounds, run_sizeOf hs.h, add_none]
/-- An element of an array behind a pointer. -/
theorem x_indexAddrA {T E : TypeId} {m : Nat} [hT : TU P T (.array m E)] [hs : TSz P E 1] {x ix : Operand} {b off : Nat} {k : IntKind} {j : Nat}
    (hx : ev n env x = .pointer (some ⟨b, off, none⟩)) (hi : ev n env ix = .int k (j : Int)) (h1 : j < m) :
    Run P n env ⟨dst, .indexAddr T x ix, ty, pos, aft, g⟩ w (.ok (.value (.pointer (some ⟨b, off + j, none⟩))) w) := by
  have h := x_indexAddr_arr (P := P) (w := w) (dst := dst) (ty := ty) (pos := pos) (aft := aft) (g := g) (T := T) hx hi (by omega) (by omega)
  rwa [Int.toNat_natCast, Nat.mul_one] at h
theorem x_indexAddrI {T E : TypeId} {m : Nat} [hT : TU P T (.array m E)] [hs : TSz P E 1] {x ix : Operand} {b off : Nat} {k : IntKind} {i : Int}
    (hx : ev n env x = .pointer (some ⟨b, off, none⟩)) (hi : ev n env ix = .int k i) (h0 : 0 ≤ i) (h1 : i < m) :
    Run P n env ⟨dst, .indexAddr T x ix, ty, pos, aft, g⟩ w (.ok (.value (.pointer (some ⟨b, off + i.toNat, none⟩))) w) := by
  have h := x_indexAddr_arr (P := P) (w := w) (dst := dst) (ty := ty) (pos := pos) (aft := aft) (g := g) (T := T) hx hi h0 h1
  rwa [Nat.mul_one] at h
theorem x_quoI {x y : Operand} {T T' : TypeId} {a b : Int} (hx : ev n env x = .int .i64 a) (hy : ev n env y = .int .i64 b) (h0 : 0 ≤ a) (h1 : a ≤ 9223372036854775807) (hb : 0 < b) :
    Run P n env ⟨dst, .binOp .quo T x y T', ty, pos, aft, g⟩ w (.ok (.value (.int .i64 (a / b))) w) := by
  have h := x_quo (P := P) (w := w) (dst := dst) (ty := ty) (pos := pos) (aft := aft) (g := g) (T := T) (T' := T') hx hy (by omega)
  have h2 : 0 ≤ a / b := Int.ediv_nonneg h0 (by omega)
  have h3 : a / b ≤ a := Int.ediv_le_self b h0
  rw [Int.tdiv_eq_ediv_of_nonneg h0, i64_in (by omega) (by omega)] at h
  exact h
theorem x_remI {x y : Operand} {T T' : TypeId} {k : IntKind} {a b : Int} (hx : ev n env x = .int k a) (hy : ev n env y = .int k b) (h0 : 0 ≤ a) (hb : 0 < b) :
    Run P n env ⟨dst, .binOp .rem T x y T', ty, pos, aft, g⟩ w (.ok (.value (.int k (a % b))) w) := by
  have h := x_rem (P := P) (w := w) (dst := dst) (ty := ty) (pos := pos) (aft := aft) (g := g) (T := T) (T' := T') hx hy (by omega)
  rw [Int.tmod_eq_emod_of_nonneg h0] at h
  exact h
theorem x_mul64 {x y : Operand} {T T' : TypeId} {a b : Int} (hx : ev n env x = .int .i64 a) (hy : ev n env y = .int .i64 b) (h1 : -9223372036854775808 ≤ a * b) (h2 : a * b ≤ 9223372036854775807) :
    Run P n env ⟨dst, .binOp .mul T x y T', ty, pos, aft, g⟩ w (.ok (.value (.int .i64 (a * b))) w) := by
  have h := x_mul (P := P) (w := w) (dst := dst) (ty := ty) (pos := pos) (aft := aft) (g := g) (T := T) (T' := T') hx hy
  rw [i64_in h1 h2] at h; exact h
/-- Words and octets, stored. -/
theorem r_store_bw {T : TypeId} {s : Nat} [hs : TSz P T s] {x y : Operand} {b j : Nat} {E : TypeId} {l : List (BitVec 64)} {v : BitVec 64} (hx : ev n env x = .pointer (some ⟨b, 0 + j, none⟩))
    (hy : ev n env y = .int .u64 (uw v)) (hb : Blk w b E (0, 0) (ints .u64 (ws l))) (ho : j < l.length) (h1 : s = 1) :
    ∃ w', Run P n env ⟨dst, .store T x y, ty, pos, aft, g⟩ w (.ok .skip w') ∧ Eff w w' b (.cells (ints .u64 (ws (l.set j v))).toArray E (0, 0)) := by
  have h := r_store_bints (P := P) (w := w) (dst := dst) (ty := ty) (pos := pos) (aft := aft) (g := g) (T := T) hx hy hb (by simpa using ho) h1
  rw [ws_set] at h
  exact h
theorem r_store_bb {T : TypeId} {s : Nat} [hs : TSz P T s] {x y : Operand} {b j : Nat} {E : TypeId} {l : List UInt8} {v : UInt8} (hx : ev n env x = .pointer (some ⟨b, 0 + j, none⟩))
    (hy : ev n env y = .int .u8 (ub v)) (hb : Blk w b E (0, 0) (ints .u8 (bs8 l))) (ho : j < l.length) (h1 : s = 1) :
    ∃ w', Run P n env ⟨dst, .store T x y, ty, pos, aft, g⟩ w (.ok .skip w') ∧ Eff w w' b (.cells (ints .u8 (bs8 (l.set j v))).toArray E (0, 0)) := by
  have h := r_store_bints (P := P) (w := w) (dst := dst) (ty := ty) (pos := pos) (aft := aft) (g := g) (T := T) hx hy hb (by simpa using ho) h1
  rw [bs8_set] at h
  exact h
/-- A whole array stored. -/
theorem r_store_all {T : TypeId} {s : Nat} [hs : TSz P T s] {x y : Operand} {b : Nat} {E : TypeId} {cs vs : List Value} (hx : ev n env x = .pointer (some ⟨b, 0, none⟩))
    (hy : ev n env y = .agg vs.toArray) (hb : Blk w b E (0, 0) cs) (hl : vs.length = s) (hc : cs.length = s) (h1 : vs.all (·.oneCell') = true) :
    ∃ w', Run P n env ⟨dst, .store T x y, ty, pos, aft, g⟩ w (.ok .skip w') ∧ Eff w w' b (.cells vs.toArray E (0, 0)) := by
  have h := r_storeN (P := P) (w := w) (dst := dst) (ty := ty) (pos := pos) (aft := aft) (g := g) (T := T) hx hy hb hl (by omega) h1
  have e : lay cs 0 vs = vs := by simp [lay, List.drop_of_length_le (show cs.length ≤ vs.length by omega)]
  rw [e] at h
  exact h
theorem ints_one (k : IntKind) (xs : List Int) : (ints k xs).all (·.oneCell') = true := by
  rw [List.all_eq_true]
  intro v hv
  simp only [ints, List.mem_map] at hv
  obtain ⟨x, _, rfl⟩ := hv
  rfl
/-- Words and octets, loaded. -/
theorem x_load_bw {T : TypeId} [TOne P T] {x : Operand} {b j : Nat} {E : TypeId} {fz : Nat × Nat} {l : List (BitVec 64)} (hx : ev n env x = .pointer (some ⟨b, 0 + j, none⟩))
    (hb : Blk w b E fz (ints .u64 (ws l))) (hj : j < l.length) :
    Run P n env ⟨dst, .load T x, ty, pos, aft, g⟩ w (.ok (.value (.int .u64 (uw (l.getD j 0)))) w) := by
  rw [← ws_get hj]
  rw [Nat.zero_add] at hx
  exact x_load1 hx hb (ints_get _ _ _ (by simpa using hj))
theorem x_load_bb {T : TypeId} [TOne P T] {x : Operand} {b j : Nat} {E : TypeId} {fz : Nat × Nat} {l : List UInt8} (hx : ev n env x = .pointer (some ⟨b, 0 + j, none⟩))
    (hb : Blk w b E fz (ints .u8 (bs8 l))) (hj : j < l.length) :
    Run P n env ⟨dst, .load T x, ty, pos, aft, g⟩ w (.ok (.value (.int .u8 (ub (l.getD j 0)))) w) := by
  rw [← bs8_get hj]
  rw [Nat.zero_add] at hx
  exact x_load1 hx hb (ints_get _ _ _ (by simpa using hj))
theorem x_load_sw {T : TypeId} [TOne P T] {x : Operand} {b off j : Nat} {l : List (BitVec 64)} (hx : ev n env x = .pointer (some ⟨b, off + j, none⟩))
    (hs : Seg w b off (ints .u64 (ws l))) (hj : j < l.length) :
    Run P n env ⟨dst, .load T x, ty, pos, aft, g⟩ w (.ok (.value (.int .u64 (uw (l.getD j 0)))) w) := by
  rw [← ws_get hj]
  exact x_load_ints hx hs (by simpa using hj)
theorem x_load_sb {T : TypeId} [TOne P T] {x : Operand} {b off j : Nat} {l : List UInt8} (hx : ev n env x = .pointer (some ⟨b, off + j, none⟩))
    (hs : Seg w b off (ints .u8 (bs8 l))) (hj : j < l.length) :
    Run P n env ⟨dst, .load T x, ty, pos, aft, g⟩ w (.ok (.value (.int .u8 (ub (l.getD j 0)))) w) := by
  rw [← bs8_get hj]
  exact x_load_ints hx hs (by simpa using hj)
/-- A whole array loaded. -/
theorem x_load_all {T : TypeId} {s : Nat} [hT : TAgg P T s] {x : Operand} {b : Nat} {E : TypeId} {fz : Nat × Nat} {cs : List Value} (hx : ev n env x = .pointer (some ⟨b, 0, none⟩))
    (hb : Blk w b E fz cs) (hl : cs.length = s) :
    Run P n env ⟨dst, .load T x, ty, pos, aft, g⟩ w (.ok (.value (.agg cs.toArray)) w) := x_loadN hx hb hl (fun j _ => by rw [Nat.zero_add])
/-- An element of an array value. -/
theorem x_index_arr {T E : TypeId} {m : Nat} [hT : TU P T (.array m E)] [hs : TSz P E 1] [hE : TOne P E] {x ix : Operand} {k : IntKind} {j : Nat} {cs : List Value} {v : Value}
    (hx : ev n env x = .agg cs.toArray) (hi : ev n env ix = .int k (j : Int)) (h1 : j < m) (hv : cs[j]? = some v) :
    Run P n env ⟨dst, .index T x ix, ty, pos, aft, g⟩ w (.ok (.value v) w) := by
  unfold Run
  simp [execOp, hx, hi, Instr.index, asIntOf, run_underlying hT.h, h1, run_sizeOf hs.h, part, run_isAgg_one, hv]
/-- Cells copied: read first, then written. -/
theorem r_copy {T T2 E E2 : TypeId} [hT : TU P T (.slice E2)] [hs : TSz P E2 1] {x y : Operand} {b off dl dc b2 off2 sl sc : Nat} {cs vs : List Value} (hx : ev n env x = .slice (some ⟨b, off, none⟩) dl dc) (hy : ev n env y = .slice (some ⟨b2, off2, none⟩) sl sc)
    (hl : vs.length = min sl dl) (hb : Blk w b E (0, 0) cs) (ho : off + vs.length ≤ cs.length) (hv : Seg w b2 off2 vs) (h1 : vs.all (·.oneCell') = true) :
    ∃ v w', Run P n env ⟨dst, .call ⟨.builtin .copy, #[x, y], #[T, T2]⟩, ty, pos, aft, g⟩ w (.ok (.value v) w') ∧ v = .int .i64 (min sl dl : Nat) ∧ Eff w w' b (.cells (lay cs off vs).toArray E (0, 0)) := by
  obtain ⟨w', hr, hw⟩ := run_storeCells_eff (P := P) (b := b) (off := off) (E := E) vs 0 cs w hb (by omega) (fun v hv => (List.all_eq_true.1 h1) v hv)
  have h := run_loadCells_list (P := P) w ⟨b2, off2, none⟩ vs (fun j v hj => by
    rw [add_none, hv j (List.getElem?_eq_some_iff.1 hj).1, hj])
  rw [hl] at h
  refine ⟨_, w', ?_, rfl, hw⟩
  unfold Run
  simp [execOp, hx, hy, resolve, invoke, builtin, run_underlying hT.h, Builtin.copy_, Builtin.lenOf, Builtin.firstCells, run_sizeOf hs.h, Nat.min_def, goInt]
  rw [Nat.min_def] at h
  simp [h, hr]
end
section
variable {P : Program} {f : Fm} {n : Nat} {R : Ending → World → Prop} {k : List Item} {env : Env} {w : World} {d : Tmp} {ty : TypeId} {pos : String} {aft : Array Edge} {pre rest : List Oper}
theorem s_xw {x y : Operand} {T T' : TypeId} {a b : BitVec 64} (h : AtR P f n R (⟨some d, .binOp .xor T x y T', ty, pos, aft, none⟩ :: pre) rest k (upd env d (.int .u64 (uw (a ^^^ b)))) w) (hx : ev n env x = .int .u64 (uw a) := by exact rfl) (hy : ev n env y = .int .u64 (uw b) := by exact rfl) :
    AtR P f n R pre (⟨some d, .binOp .xor T x y T', ty, pos, aft, none⟩ :: rest) k env w := s_val (x_xorW hx hy) h
theorem s_aw {x y : Operand} {T T' : TypeId} {a b : BitVec 64} (h : AtR P f n R (⟨some d, .binOp .and T x y T', ty, pos, aft, none⟩ :: pre) rest k (upd env d (.int .u64 (uw (a &&& b)))) w) (hx : ev n env x = .int .u64 (uw a) := by exact rfl) (hy : ev n env y = .int .u64 (uw b) := by exact rfl) :
    AtR P f n R pre (⟨some d, .binOp .and T x y T', ty, pos, aft, none⟩ :: rest) k env w := s_val (x_andW hx hy) h
theorem s_ow {x y : Operand} {T T' : TypeId} {a b : BitVec 64} (h : AtR P f n R (⟨some d, .binOp .or T x y T', ty, pos, aft, none⟩ :: pre) rest k (upd env d (.int .u64 (uw (a ||| b)))) w) (hx : ev n env x = .int .u64 (uw a) := by exact rfl) (hy : ev n env y = .int .u64 (uw b) := by exact rfl) :
    AtR P f n R pre (⟨some d, .binOp .or T x y T', ty, pos, aft, none⟩ :: rest) k env w := s_val (x_orW hx hy) h
theorem s_dw {x y : Operand} {T T' : TypeId} {a b : BitVec 64} (h : AtR P f n R (⟨some d, .binOp .add T x y T', ty, pos, aft, none⟩ :: pre) rest k (upd env d (.int .u64 (uw (a + b)))) w) (hx : ev n env x = .int .u64 (uw a) := by exact rfl) (hy : ev n env y = .int .u64 (uw b) := by exact rfl) :
    AtR P f n R pre (⟨some d, .binOp .add T x y T', ty, pos, aft, none⟩ :: rest) k env w := s_val (x_addW hx hy) h
theorem s_hl {x y : Operand} {T T' : TypeId} {a : BitVec 64} {k' : IntKind} {m : Int} (h : AtR P f n R (⟨some d, .binOp .shl T x y T', ty, pos, aft, none⟩ :: pre) rest k (upd env d (.int .u64 (uw (a <<< m.toNat)))) w) (hx : ev n env x = .int .u64 (uw a) := by exact rfl) (hy : ev n env y = .int k' m := by exact rfl) (hm : 0 ≤ m := by omega) :
    AtR P f n R pre (⟨some d, .binOp .shl T x y T', ty, pos, aft, none⟩ :: rest) k env w := s_val (x_shlW hx hy hm) h
theorem s_hr {x y : Operand} {T T' : TypeId} {a : BitVec 64} {k' : IntKind} {m : Int} (h : AtR P f n R (⟨some d, .binOp .shr T x y T', ty, pos, aft, none⟩ :: pre) rest k (upd env d (.int .u64 (uw (a >>> m.toNat)))) w) (hx : ev n env x = .int .u64 (uw a) := by exact rfl) (hy : ev n env y = .int k' m := by exact rfl) (hm : 0 ≤ m := by omega) :
    AtR P f n R pre (⟨some d, .binOp .shr T x y T', ty, pos, aft, none⟩ :: rest) k env w := s_val (x_shrW hx hy hm) h
theorem s_bw {S T : TypeId} {x : Operand} {ks : IntKind} {a : UInt8} [TU P S (.int ks)] [TU P T (.int .u64)] (h : AtR P f n R (⟨some d, .convert S T x, ty, pos, aft, none⟩ :: pre) rest k (upd env d (.int .u64 (uw (BitVec.ofNat 64 a.toNat)))) w) (hx : ev n env x = .int .u8 (ub a) := by exact rfl) :
    AtR P f n R pre (⟨some d, .convert S T x, ty, pos, aft, none⟩ :: rest) k env w := s_val (x_conv_bw hx) h
theorem s_wb {S T : TypeId} {x : Operand} {ks : IntKind} {a : BitVec 64} [TU P S (.int ks)] [TU P T (.int .u8)] (h : AtR P f n R (⟨some d, .convert S T x, ty, pos, aft, none⟩ :: pre) rest k (upd env d (.int .u8 (ub (lowb a)))) w) (hx : ev n env x = .int .u64 (uw a) := by exact rfl) :
    AtR P f n R pre (⟨some d, .convert S T x, ty, pos, aft, none⟩ :: rest) k env w := s_val (x_conv_wb hx) h
theorem s_ng {T : TypeId} {x : Operand} {a : Int} (h : AtR P f n R (⟨some d, .unOp .neg T x, ty, pos, aft, none⟩ :: pre) rest k (upd env d (.int .i64 (0 - a))) w) (hx : ev n env x = .int .i64 a := by exact rfl) (h1 : -9223372036854775807 ≤ a := by omega) (h2 : a ≤ 9223372036854775807 := by omega) :
    AtR P f n R pre (⟨some d, .unOp .neg T x, ty, pos, aft, none⟩ :: rest) k env w := s_val (x_neg64 hx h1 h2) h
theorem s_ldw {T : TypeId} {x : Operand} {v : Value} (h : AtR P f n R (⟨some d, .load T x, ty, pos, aft, none⟩ :: pre) rest k (upd env d (v)) w) (hr : Run P n env ⟨some d, .load T x, ty, pos, aft, none⟩ w (.ok (.value v) w) := by first | exact x_load_bw rfl (by assumption) (by omega) | exact x_load_sw rfl (by assumption) (by omega) | exact x_load_bb rfl (by assumption) (by omega) | exact x_load_sb rfl (by assumption) (by omega)) :
    AtR P f n R pre (⟨some d, .load T x, ty, pos, aft, none⟩ :: rest) k env w := s_val (hr) h
theorem s_iaa {T : TypeId} {x ix : Operand} {v : Value} (h : AtR P f n R (⟨some d, .indexAddr T x ix, ty, pos, aft, none⟩ :: pre) rest k (upd env d (v)) w) (hr : Run P n env ⟨some d, .indexAddr T x ix, ty, pos, aft, none⟩ w (.ok (.value v) w) := by first | exact x_indexAddrA rfl rfl (by omega) | exact x_indexAddrI rfl rfl (by omega) (by omega)) :
    AtR P f n R pre (⟨some d, .indexAddr T x ix, ty, pos, aft, none⟩ :: rest) k env w := s_val (hr) h
theorem s_qu {x y : Operand} {T T' : TypeId} {a b : Int} (h : AtR P f n R (⟨some d, .binOp .quo T x y T', ty, pos, aft, none⟩ :: pre) rest k (upd env d (.int .i64 (a / b))) w) (hx : ev n env x = .int .i64 a := by exact rfl) (hy : ev n env y = .int .i64 b := by exact rfl) (h0 : 0 ≤ a := by omega) (h1 : a ≤ 9223372036854775807 := by omega) (hb : 0 < b := by omega) :
    AtR P f n R pre (⟨some d, .binOp .quo T x y T', ty, pos, aft, none⟩ :: rest) k env w := s_val (x_quoI hx hy h0 h1 hb) h
theorem s_rm {x y : Operand} {T T' : TypeId} {kk : IntKind} {a b : Int} (h : AtR P f n R (⟨some d, .binOp .rem T x y T', ty, pos, aft, none⟩ :: pre) rest k (upd env d (.int kk (a % b))) w) (hx : ev n env x = .int kk a := by exact rfl) (hy : ev n env y = .int kk b := by exact rfl) (h0 : 0 ≤ a := by omega) (hb : 0 < b := by omega) :
    AtR P f n R pre (⟨some d, .binOp .rem T x y T', ty, pos, aft, none⟩ :: rest) k env w := s_val (x_remI hx hy h0 hb) h
theorem s_ml {x y : Operand} {T T' : TypeId} {a b : Int} (h : AtR P f n R (⟨some d, .binOp .mul T x y T', ty, pos, aft, none⟩ :: pre) rest k (upd env d (.int .i64 (a * b))) w) (hx : ev n env x = .int .i64 a := by exact rfl) (hy : ev n env y = .int .i64 b := by exact rfl) (h1 : -9223372036854775808 ≤ a * b := by omega) (h2 : a * b ≤ 9223372036854775807 := by omega) :
    AtR P f n R pre (⟨some d, .binOp .mul T x y T', ty, pos, aft, none⟩ :: rest) k env w := s_val (x_mul64 hx hy h1 h2) h
theorem s_cp {T : TypeId} {x : Operand} {v : Value} (h : AtR P f n R (⟨some d, .call ⟨.builtin .cap, #[x], #[T]⟩, ty, pos, aft, none⟩ :: pre) rest k (upd env d (v)) w) (hr : Run P n env ⟨some d, .call ⟨.builtin .cap, #[x], #[T]⟩, ty, pos, aft, none⟩ w (.ok (.value v) w) := by exact x_cap_slice rfl) :
    AtR P f n R pre (⟨some d, .call ⟨.builtin .cap, #[x], #[T]⟩, ty, pos, aft, none⟩ :: rest) k env w := s_val (hr) h
end
end Go.Kx
