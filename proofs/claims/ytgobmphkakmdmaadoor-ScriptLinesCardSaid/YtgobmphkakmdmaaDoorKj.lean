/- Slices of truth values that came in. Own work; nothing of a program is named here. -/
import Derived.Test.YtgobmphkakmdmaaDoorKf
import Derived.ChangeSlices
namespace Go.Kx
open Go
/-- A slice of truth values that can be read. -/
structure SlB (w : World) (a : Option Addr) (len cap : Nat) (bs : List Bool) : Prop where
  len_eq : bs.length = len
  le : len ≤ cap
  max : cap ≤ 9223372036854775807
  mem : (a = none ∧ cap = 0) ∨ ∃ b off, a = some ⟨b, off, none⟩ ∧ b < w.heap.size ∧ Seg w b off (bs.map Value.bool)
theorem SlB.kp {S : Nat → Prop} {w w' : World} {a : Option Addr} {len cap : Nat} {bs : List Bool} (h : SlB w a len cap bs) (hk : Kp S w w') (hb : ∀ j, blkOf a j → ¬ S j) : SlB w' a len cap bs := by
  refine ⟨h.len_eq, h.le, h.max, h.mem.imp id ?_⟩
  rintro ⟨b, off, rfl, hl, hs⟩
  exact ⟨b, off, rfl, Nat.lt_of_lt_of_le hl hk.size, hs.kp hk (hb b rfl) hl⟩
theorem SlB.kpn {w w' : World} {a : Option Addr} {len cap : Nat} {bs : List Bool} (h : SlB w a len cap bs) (hk : Kp No w w') : SlB w' a len cap bs := h.kp hk fun _ _ => id
theorem SlB.lt {w : World} {a : Option Addr} {len cap : Nat} {bs : List Bool} (h : SlB w a len cap bs) : ∀ j, blkOf a j → j < w.heap.size := by
  rcases h.mem with ⟨rfl, _⟩ | ⟨b, off, rfl, hl, _⟩
  · intro j hj; simp [blkOf] at hj
  · intro j hj; simp [blkOf] at hj; omega
theorem x_load_seg {P : Program} {n : Nat} {env : Env} {w : World} {dst : Option Tmp} {ty : TypeId} {pos : String} {aft : Array Edge} {g : Option (Nat × Bool)} {T : TypeId} [TOne P T] {x : Operand} {b off j : Nat} {vs : List Value} {v : Value}
    (hx : ev n env x = .pointer (some ⟨b, off + j, none⟩)) (hs : Seg w b off vs) (hj : vs[j]? = some v) :
    Run P n env ⟨dst, .load T x, ty, pos, aft, g⟩ w (.ok (.value v) w) := by
  unfold Run
  simp [execOp, hx, Instr.loadAt, Instr.sureAddr, run_load_cell (P := P) (T := T) ((hs j (List.getElem?_eq_some_iff.1 hj).1).trans hj)]
theorem in_bools {P : Program} {w : World} {H : Type} {enc : TypeId × Value → H} {r : Reach} {base : Nat} {T E : TypeId} {a : Option Addr} {len cap : Nat} {d : DataW H} {p : List MemPlace}
    (ht : P.underlying T = some (.slice E)) (he : P.underlying E = some .bool) (hc : P.cellsOf E = 1) (hok : Value.okWide P w r base T (.slice a len cap))
    (h : DataW.Trod enc P w 0 (fun _ => true) true T (.slice a len cap) d p) : ∃ bs, SlB w a len cap bs := by
  simp only [Value.okWide, ht, Cell.okWide, Cell.ok] at hok
  obtain ⟨fuel, hf⟩ := h
  rcases DataW.trod_slice ht hf with ⟨hcs, _⟩ | ⟨x, l, c, elems, rest, n, _, hcs, _, _, hl, hm, hlen, hel, _⟩
  · simp [Value.cells] at hcs
    obtain ⟨rfl, rfl, rfl⟩ := hcs
    exact ⟨[], rfl, Nat.le_refl _, by omega, .inl ⟨rfl, rfl⟩⟩
  · simp [Value.cells] at hcs
    obtain ⟨rfl, rfl, rfl⟩ := hcs
    obtain ⟨_, hmax, _, hsp, row, cells, hshape, _⟩ := hok
    obtain ⟨b, off, spot⟩ := x
    simp only at hsp
    subst hsp
    have hlt : b < w.heap.size := by
      unfold World.shape? at hshape
      split at hshape
      · rename_i hh; exact (Array.getElem?_eq_some_iff.1 hh).1
      · cases hshape
    have key : ∀ i, i < len → ∃ t : Bool, w.cell? ⟨b, off + i, none⟩ = some (.bool t) := by
      intro i hi
      have h1 := hel i hi
      have hy : elems[i]? = some (elems[i]'(by omega)) := by simp
      rw [hc, Nat.mul_one, hy, Option.bind_eq_some_iff] at h1
      obtain ⟨cs', hcs, hy'⟩ := h1
      obtain ⟨t, rfl, _⟩ := DataW.trod_bool he hy'
      have h2 := ChangeShapes.cell_of_cells?_one hcs
      rw [add_none] at h2
      exact ⟨t, h2⟩
    let nth : Nat → Bool := fun i => match w.cell? ⟨b, off + i, none⟩ with | some (.bool t) => t | _ => false
    refine ⟨(List.range len).map nth, by simp, hl, by simpa [maxLen] using hm, .inr ⟨b, off, rfl, hlt, fun j hj => ?_⟩⟩
    have hj' : j < len := by simpa using hj
    obtain ⟨t, ht'⟩ := key j hj'
    have hn : nth j = t := by simp only [nth, ht']
    rw [ht']
    simp [hj', hn]
/-- The rest of a slice. -/
theorem sl_tail {P : Program} {n : Nat} {env : Env} {w : World} {dst : Option Tmp} {ty : TypeId} {pos : String} {aft : Array Edge} {g : Option (Nat × Bool)} {T E : TypeId} [hT : TU P T (.slice E)] [hs : TSz P E 1] {x lo : Operand}
    {b off len cap : Nat} {k kl : IntKind} {xs : List Int} (h : Sl w k (some ⟨b, off, none⟩) len cap xs) (h0 : 0 < len) (hx : ev n env x = .slice (some ⟨b, off, none⟩) len cap) (hh : ev n env lo = .int kl 1) :
    ∃ off', Run P n env ⟨dst, .slice T x (some lo) none none, ty, pos, aft, g⟩ w (.ok (.value (.slice (some ⟨b, off', none⟩) (len - 1) (cap - 1))) w) ∧ Sl w k (some ⟨b, off', none⟩) (len - 1) (cap - 1) (xs.drop 1) := by
  have hl := h.len_eq
  have hc := h.le
  have hm := h.max
  rcases h.mem with ⟨h1, _⟩ | ⟨b', o', h1, hlt, hseg⟩
  · cases h1
  cases h1
  by_cases hcap : 1 < cap
  · refine ⟨off + 1, ?_, by simp; omega, by omega, by omega, .inr ⟨b, off + 1, rfl, hlt, fun j hj => ?_⟩⟩
    · have := x_slice_l (P := P) (w := w) (dst := dst) (ty := ty) (pos := pos) (aft := aft) (g := g) (T := T) hx hh (by omega) (by omega) (by omega)
      simpa using this
    · simp at hj
      have := hseg (1 + j) (by simp; omega)
      rw [show off + 1 + j = off + (1 + j) by omega, this]
      simp [ints, Nat.add_comm]
  · have hc1 : cap = 1 := by omega
    have hl1 : len = 1 := by omega
    subst hc1
    subst hl1
    refine ⟨off, ?_, by simp; omega, by omega, by omega, .inr ⟨b, off, rfl, hlt, fun j hj => ?_⟩⟩
    · have hb : (Instr.sliceBound (.int kl 1) 1 .sliceB).run P w = .ok 1 w := run_sliceBound w kl 1 1 _ (by omega) (by omega)
      unfold Run
      simp [execOp, hx, hh, Instr.sliceAt, Instr.slice, run_underlying hT.h, Instr.sliceBounds, hb, run_sizeOf hs.h]
    · simp at hj; omega
theorem r_tail {P : Program} {n : Nat} {env : Env} {w : World} {dst : Option Tmp} {ty : TypeId} {pos : String} {aft : Array Edge} {g : Option (Nat × Bool)} {T E : TypeId} [hT : TU P T (.slice E)] [hs : TSz P E 1] {x lo : Operand}
    {b off len cap : Nat} {k kl : IntKind} {xs : List Int} (h : Sl w k (some ⟨b, off, none⟩) len cap xs) (h0 : 0 < len) (hx : ev n env x = .slice (some ⟨b, off, none⟩) len cap) (hh : ev n env lo = .int kl 1) :
    ∃ v w', Run P n env ⟨dst, .slice T x (some lo) none none, ty, pos, aft, g⟩ w (.ok (.value v) w') ∧ ∃ off', v = .slice (some ⟨b, off', none⟩) (len - 1) (cap - 1) ∧ Sl w k (some ⟨b, off', none⟩) (len - 1) (cap - 1) (xs.drop 1) ∧ w = w' := by
  obtain ⟨off', hr, hl⟩ := sl_tail (P := P) (dst := dst) (ty := ty) (pos := pos) (aft := aft) (g := g) (T := T) h h0 hx hh
  exact ⟨_, _, hr, off', rfl, hl, rfl⟩
end Go.Kx
