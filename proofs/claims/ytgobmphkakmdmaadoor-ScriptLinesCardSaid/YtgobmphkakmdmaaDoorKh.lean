/- Operations that change the world, said as 'there is a run, and of it this holds': for a region that draws its order. Slices of whole numbers that came in. Own work. -/
import Derived.Test.YtgobmphkakmdmaaDoorKg
namespace Go.Kx
open Go
section
variable {P : Program} {f : Fm} {n : Nat} {R : Ending → World → Prop} {k : List Item} {env : Env} {w : World} {S : World → Prop} {ops : Array Oper} {dst : Option Tmp} {ty : TypeId} {pos : String} {aft : Array Edge}
  {g : Option (Nat × Bool)} {pre rest : List Oper}
theorem G_skip {o : Oper} {Q : World → Prop} (h : ∃ w', Run P n env o w (.ok .skip w') ∧ Q w') (hk : ∀ w', Q w' → AtR P f n R (o :: pre) rest k (updo env o.dst undef) w') : AtG P f n R pre o rest k env w := by
  obtain ⟨w', hr, hq⟩ := h; exact AtG_skip hr (hk w' hq)
theorem G_val {o : Oper} {Q : Value → World → Prop} (h : ∃ v w', Run P n env o w (.ok (.value v) w') ∧ Q v w') (hk : ∀ v w', Q v w' → AtR P f n R (o :: pre) rest k (updo env o.dst v) w') : AtG P f n R pre o rest k env w := by
  obtain ⟨v, w', hr, hq⟩ := h; exact AtG_value hr (hk v w' hq)
theorem H_skip {fuel : Nat} {listed : Array Bool} (i : Nat) {o : Oper} {Q : World → Prop} (hi : ops[i]? = some o) (hr : Region.ready .any ops listed = [i]) (hg : gsays ops n env o true)
    (h : ∃ w', Run P n env o w (.ok .skip w') ∧ Q w') (hk : ∀ w', Q w' → S w' ∧ AtH P f n R ops S k fuel (listed.setIfInBounds i true) (updo env o.dst undef) w') : AtH P f n R ops S k (fuel + 1) listed env w := by
  obtain ⟨w', hrun, hq⟩ := h; exact AtH_skip i hi hr hg hrun (hk w' hq).1 (hk w' hq).2
theorem H_val {fuel : Nat} {listed : Array Bool} (i : Nat) {o : Oper} {Q : Value → World → Prop} (hi : ops[i]? = some o) (hr : Region.ready .any ops listed = [i]) (hg : gsays ops n env o true)
    (h : ∃ v w', Run P n env o w (.ok (.value v) w') ∧ Q v w') (hk : ∀ v w', Q v w' → S w' ∧ AtH P f n R ops S k fuel (listed.setIfInBounds i true) (updo env o.dst v) w') : AtH P f n R ops S k (fuel + 1) listed env w := by
  obtain ⟨v, w', hrun, hq⟩ := h; exact AtH_val i hi hr hg hrun (hk v w' hq).1 (hk v w' hq).2

theorem r_store1 {T : TypeId} {s : Nat} [hs : TSz P T s] {x y : Operand} {b off : Nat} {E : TypeId} {cs : List Value} {v : Value} (hx : ev n env x = .pointer (some ⟨b, off, none⟩))
    (hy : ev n env y = v) (hb : Blk w b E (0, 0) cs) (ho : off < cs.length) (hv : one v = true) (h1 : s = 1) :
    ∃ w', Run P n env ⟨dst, .store T x y, ty, pos, aft, g⟩ w (.ok .skip w') ∧ Eff w w' b (.cells (cs.set off v).toArray E (0, 0)) := by
  subst h1
  have hcells : v.cells = #[v] := by cases v <;> simp_all [one, Value.cells]
  refine ⟨w.setCell ⟨b, off, none⟩ v, ?_, eff_setCell hb v⟩
  unfold Run
  simp [execOp, Instr.storeAt, hx, hy, Instr.sureAddr, storeVar, run_sizeOf hs.h, hcells, storeCells, add_none, run_store_one hb ho hv]
/-- A whole number stored into a row of such. -/
theorem r_store_bints {T : TypeId} {s : Nat} [hs : TSz P T s] {x y : Operand} {b j : Nat} {E : TypeId} {kk : IntKind} {xs : List Int} {v : Int} (hx : ev n env x = .pointer (some ⟨b, 0 + j, none⟩))
    (hy : ev n env y = .int kk v) (hb : Blk w b E (0, 0) (ints kk xs)) (ho : j < xs.length) (h1 : s = 1) :
    ∃ w', Run P n env ⟨dst, .store T x y, ty, pos, aft, g⟩ w (.ok .skip w') ∧ Eff w w' b (.cells (ints kk (xs.set j v)).toArray E (0, 0)) := by
  have h := r_store1 (P := P) (w := w) (dst := dst) (ty := ty) (pos := pos) (aft := aft) (g := g) (T := T) hx hy hb (by simpa using ho) rfl h1
  rw [Nat.zero_add, ints_set] at h
  exact h
theorem r_storeN {T : TypeId} {s : Nat} [hs : TSz P T s] {x y : Operand} {b off : Nat} {E : TypeId} {cs vs : List Value} (hx : ev n env x = .pointer (some ⟨b, off, none⟩))
    (hy : ev n env y = .agg vs.toArray) (hb : Blk w b E (0, 0) cs) (hl : vs.length = s) (ho : off + s ≤ cs.length) (h1 : vs.all (·.oneCell') = true) :
    ∃ w', Run P n env ⟨dst, .store T x y, ty, pos, aft, g⟩ w (.ok .skip w') ∧ Eff w w' b (.cells (lay cs off vs).toArray E (0, 0)) := by
  obtain ⟨w', hr, hw⟩ := run_storeCells_eff (P := P) (b := b) (off := off) (E := E) vs 0 cs w hb (by omega) (fun v hv => (List.all_eq_true.1 h1) v hv)
  refine ⟨w', ?_, hw⟩
  unfold Run
  simp [execOp, Instr.storeAt, hx, hy, Instr.sureAddr, storeVar, run_sizeOf hs.h, Value.cells, hl, hr]
theorem r_append {T tx E : TypeId} {z : Value} {s y : Nat} [hT : TU P T (.slice E)] [TZ P E z] [TSz P E s] [TBy P E y]
    {xd xs : Operand} {a : Option Addr} {m cap : Nat} {cs : List Value} {x : Value} {j : Nat} {news : List Value} (hd : ev n env xd = .slice a m cap) (hv : ev n env xs = x)
    (ho : Own w E s a m cap cs) (hx : Src P s tx x j news w) (hz : z.cells.size = s) (hs : 0 < s)
    (h63 : m + j ≤ maxLen) (hby : (m + j) * y ≤ 140737488355328) :
    ∃ v w', Run P n env ⟨dst, .call ⟨.builtin .append, #[xd, xs], #[T, tx]⟩, ty, pos, aft, g⟩ w (.ok (.value v) w') ∧
      ∃ a' cap', v = .slice a' (m + j) cap' ∧ Own w' E s a' (m + j) cap' (cs ++ news) ∧ Kp (blkOf a) w w' ∧ (a' = a ∨ ∃ b, a' = some ⟨b, 0, none⟩ ∧ w.heap.size ≤ b) := by
  obtain ⟨a', cap', w', hr, h1, h2, h3⟩ := run_append_own' (P := P) (ty := ty) (T := T) (tx := tx) hz hs ho hx h63 hby
  refine ⟨_, w', ?_, a', cap', rfl, h1, h2, h3⟩
  unfold Run
  simp [execOp, resolve, invoke, builtin, hd, hv, hr]
theorem r_buildSlice1 {T E : TypeId} {z : Value} {len : Nat} [hT : TU P T (.slice E)] [hZ : TZ P E z] [hS : TSz P E 1]
    {os : List Operand} {parts : List (Nat × Operand)} {vs : List Value} (hp : parts = os.zipIdx.map (fun p => (p.2, p.1))) (hl : os.length = len) (hlen : len ≤ 16777216) (hz : one z = true)
    (hv : os.map (ev n env) = vs) (h1 : vs.all one = true) :
    ∃ v w', Run P n env ⟨dst, .buildSlice T len parts.toArray, ty, pos, aft, g⟩ w (.ok (.value v) w') ∧ ∃ b, v = .slice (some ⟨b, 0, none⟩) len len ∧ b = w.heap.size ∧ Eff w w' b (.cells vs.toArray E (0, 0)) :=
  ⟨_, _, run_buildSlice1 hp hl hlen hz hv h1, _, rfl, rfl, eff_push w _⟩

/-- A slice of whole numbers that can be read. -/
structure Sl (w : World) (k : IntKind) (a : Option Addr) (len cap : Nat) (xs : List Int) : Prop where
  len_eq : xs.length = len
  le : len ≤ cap
  max : cap ≤ 9223372036854775807
  mem : (a = none ∧ cap = 0) ∨ ∃ b off, a = some ⟨b, off, none⟩ ∧ b < w.heap.size ∧ Seg w b off (ints k xs)
theorem Seg.kp {S : Nat → Prop} {w w' : World} {b off : Nat} {vs : List Value} (h : Seg w b off vs) (hk : Kp S w w') (hb : ¬ S b) (hl : b < w.heap.size) : Seg w' b off vs := fun j hj => by
  rw [← h j hj]; exact World.cell?_of_block (hk.keep b hb hl)
theorem Sl.kp {S : Nat → Prop} {w w' : World} {k : IntKind} {a : Option Addr} {len cap : Nat} {xs : List Int} (h : Sl w k a len cap xs) (hk : Kp S w w') (hb : ∀ j, blkOf a j → ¬ S j) : Sl w' k a len cap xs := by
  refine ⟨h.len_eq, h.le, h.max, h.mem.imp id ?_⟩
  rintro ⟨b, off, rfl, hl, hs⟩
  exact ⟨b, off, rfl, Nat.lt_of_lt_of_le hl hk.size, hs.kp hk (hb b rfl) hl⟩
theorem Sl.kpn {w w' : World} {k : IntKind} {a : Option Addr} {len cap : Nat} {xs : List Int} (h : Sl w k a len cap xs) (hk : Kp No w w') : Sl w' k a len cap xs := h.kp hk fun _ _ => id
theorem Sl.lt {w : World} {k : IntKind} {a : Option Addr} {len cap : Nat} {xs : List Int} (h : Sl w k a len cap xs) : ∀ j, blkOf a j → j < w.heap.size := by
  rcases h.mem with ⟨rfl, _⟩ | ⟨b, off, rfl, hl, _⟩
  · intro j hj; simp [blkOf] at hj
  · intro j hj; simp [blkOf] at hj; omega
/-- Its first numbers. -/
theorem Sl.take {w : World} {k : IntKind} {a : Option Addr} {len cap : Nat} {xs : List Int} (h : Sl w k a len cap xs) (m : Nat) (hm : m ≤ len) : Sl w k a m cap (xs.take m) := by
  have hl := h.len_eq
  refine ⟨by simp; omega, Nat.le_trans hm h.le, h.max, h.mem.imp id ?_⟩
  rintro ⟨b, off, rfl, hl, hs⟩
  refine ⟨b, off, rfl, hl, fun j hj => ?_⟩
  simp at hj
  rw [hs j (by simp; omega)]
  simp [ints, hj]
theorem Own.sl {w : World} {E : TypeId} {k : IntKind} {a : Option Addr} {m cap : Nat} {xs : List Int} (h : Own w E 1 a m cap (ints k xs)) : Sl w k a m cap xs := by
  obtain ⟨h1, h2, h3, h4⟩ := h
  refine ⟨by simpa using h1, h2, by simpa [maxLen] using h3, h4.imp id ?_⟩
  rintro ⟨b, sp, rfl, hB, hl⟩
  refine ⟨b, 0, rfl, hB.lt, fun j hj => ?_⟩
  rw [Nat.zero_add, hB.cell, List.getElem?_append_left (by simpa using hj)]
/-- A whole block as a slice. -/
theorem Blk.sl {w : World} {b : Nat} {E : TypeId} {fz : Nat × Nat} {k : IntKind} {xs : List Int} {m : Nat} (h : Blk w b E fz (ints k xs)) (hm : xs.length = m) (hx : m ≤ 9223372036854775807) : Sl w k (some ⟨b, 0, none⟩) m m xs :=
  ⟨hm, Nat.le_refl _, hx, .inr ⟨b, 0, rfl, h.lt, fun j hj => by rw [Nat.zero_add, h.cell]⟩⟩
theorem Sl.src {w : World} {k : IntKind} {a : Option Addr} {len cap : Nat} {xs : List Int} {T E : TypeId} (h : Sl w k a len cap xs) (hT : P.underlying T = some (.slice E)) : Src P 1 T (.slice a len cap) len (ints k xs) w := by
  have hl := h.len_eq
  rcases h.mem with ⟨rfl, hc⟩ | ⟨b, off, rfl, hlt, hs⟩
  · have : len = 0 := by have := h.le; omega
    subst this
    have : xs = [] := List.eq_nil_of_length_eq_zero hl
    subst this
    exact Src.ofNil w hT cap
  · refine Src.ofSlice w hT ⟨b, off, none⟩ len cap (ints k xs) (by simp [hl]) (fun j u hj => ?_) (fun u hu => ?_)
    · rw [add_none, hs j (List.getElem?_eq_some_iff.1 hj).1, hj]
    · simp only [ints, List.mem_map] at hu
      obtain ⟨x, _, rfl⟩ := hu
      rfl
theorem x_slice_hN {T E : TypeId} {s : Nat} [hT : TU P T (.slice E)] [hs : TSz P E s] {x hi : Operand} {a : Option Addr} {len cap : Nat} {kh : IntKind} {m : Nat}
    (hx : ev n env x = .slice a len cap) (ha : ∀ ad, a = some ad → ad.spot = none) (hh : ev n env hi = .int kh (m : Int)) (h2 : m ≤ cap) :
    Run P n env ⟨dst, .slice T x none (some hi) none, ty, pos, aft, g⟩ w (.ok (.value (.slice a m cap)) w) := by
  have h := x_slice_h' (P := P) (w := w) (dst := dst) (ty := ty) (pos := pos) (aft := aft) (g := g) (T := T) hx ha hh (by omega) (by omega)
  rwa [Int.toNat_natCast] at h
theorem Sl.spot {w : World} {k : IntKind} {a : Option Addr} {len cap : Nat} {xs : List Int} (h : Sl w k a len cap xs) : ∀ ad, a = some ad → ad.spot = none := by
  rcases h.mem with ⟨rfl, _⟩ | ⟨b, off, rfl, _, _⟩
  · intro ad h; cases h
  · intro ad h; cases h; rfl
end
end Go.Kx
