/- Slices of structs of a number and a slice of numbers, that came in. Own work; nothing of a program is named here. -/
import Derived.Test.YtgobmphkakmdmaaDoorKl
import Derived.Test.YtgobmphkakmdmaaDoorKj
import Derived.ChangeSame
import Derived.ChangeSlices
namespace Go.Kx
open Go
/-- One of them. -/
structure ActC where
  kind : Int
  a : Option Addr
  len : Nat
  cap : Nat
  xs : List Int
instance : Inhabited ActC := ⟨0, none, 0, 0, []⟩
def actCells (x : ActC) : List Value := [.int .i64 x.kind, .slice x.a x.len x.cap]
/-- They can be read; D holds of the inner blocks. -/
structure SlA (w : World) (a : Option Addr) (len cap : Nat) (as : List ActC) (D : Nat → Prop) : Prop where
  len_eq : as.length = len
  le : len ≤ cap
  max : cap ≤ 9223372036854775807
  mem : cap = 0 ∨ ∃ b off, a = some ⟨b, off, none⟩ ∧ b < w.heap.size ∧ D b ∧ ∀ j, j < len → Seg w b (off + j * 2) (actCells (as.getD j default))
  inner : ∀ x ∈ as, SlE w .i64 x.a x.len x.cap x.xs D ∧ -9223372036854775808 ≤ x.kind ∧ x.kind ≤ 9223372036854775807 ∧ ∀ n ∈ x.xs, (Lit.int .i64 n).wf = true
theorem SlA.kp {S D : Nat → Prop} {w w' : World} {a : Option Addr} {len cap : Nat} {as : List ActC} (h : SlA w a len cap as D) (hk : Kp S w w') (hb : ∀ b, D b → ¬ S b) : SlA w' a len cap as D := by
  refine ⟨h.len_eq, h.le, h.max, h.mem.imp id ?_, fun x hx => ⟨(h.inner x hx).1.kp hk hb, (h.inner x hx).2⟩⟩
  rintro ⟨b, off, rfl, hl, hd, hs⟩
  exact ⟨b, off, rfl, Nat.lt_of_lt_of_le hl hk.size, hd, fun j hj => (hs j hj).kp hk (hb b hd) hl⟩
theorem SlA.kpn {D : Nat → Prop} {w w' : World} {a : Option Addr} {len cap : Nat} {as : List ActC} (h : SlA w a len cap as D) (hk : Kp No w w') : SlA w' a len cap as D := h.kp hk fun _ _ => id
theorem SlA.get {D : Nat → Prop} {w : World} {a : Option Addr} {len cap : Nat} {as : List ActC} (h : SlA w a len cap as D) {j : Nat} (hj : j < len) :
    ∃ b off, a = some ⟨b, off, none⟩ ∧ ∃ x : ActC, as[j]? = some x ∧ Seg w b (off + j * 2) (actCells x) ∧ SlE w .i64 x.a x.len x.cap x.xs D ∧ (-9223372036854775808 ≤ x.kind ∧ x.kind ≤ 9223372036854775807) ∧ ∀ n ∈ x.xs, (Lit.int .i64 n).wf = true := by
  have hl := h.len_eq
  rcases h.mem with h0 | ⟨b, off, rfl, _, _, hs⟩
  · have := h.le; omega
  have e : as.getD j default = as[j] := by simp [List.getD, show j < as.length by omega]
  have hx := h.inner _ (List.getElem_mem (show j < as.length by omega))
  have h1 := hs j hj
  rw [e] at h1
  exact ⟨b, off, rfl, as[j], by simp, h1, hx.1, ⟨hx.2.1, hx.2.2.1⟩, hx.2.2.2⟩
theorem x_load_segN {P : Program} {n : Nat} {env : Env} {w : World} {dst : Option Tmp} {ty : TypeId} {pos : String} {aft : Array Edge} {g : Option (Nat × Bool)} {T : TypeId} {s : Nat} [hT : TAgg P T s] {x : Operand} {b off : Nat} {vs : List Value}
    (hx : ev n env x = .pointer (some ⟨b, off, none⟩)) (hs : Seg w b off vs) (hl : vs.length = s) :
    Run P n env ⟨dst, .load T x, ty, pos, aft, g⟩ w (.ok (.value (.agg vs.toArray)) w) := by
  have h := run_loadCells_list (P := P) w ⟨b, off, none⟩ vs (fun j v hj => by
    rw [add_none, hs j (List.getElem?_eq_some_iff.1 hj).1, hj])
  rw [hl] at h
  unfold Run
  simp [execOp, hx, Instr.loadAt, Instr.sureAddr, loadVar, run_isAgg_agg, run_sizeOf hT.hs, h]
/-- A slice of numbers behind a cell: what is told of it. -/
theorem inner_ints {P : Program} {w : World} {H : Type} {enc : TypeId × Value → H} {T E : TypeId} {k : IntKind} {fuel : Nat} {cs : List Value} {y : DataW H × List MemPlace}
    (ht : P.underlying T = some (.slice E)) (he : P.underlying E = some (.int k)) (hc : P.cellsOf E = 1)
    (h : DataW.trod enc P w 0 (fun _ => true) true fuel T cs = some y) : ∃ a len cap xs, cs = [.slice a len cap] ∧ SlE w k a len cap xs (fun b => b < w.heap.size) ∧ ∀ x ∈ xs, (Lit.int k x).wf = true := by
  rcases ChangeShapes.open_ints ht he hc h with ⟨rfl, _⟩ | ⟨x, l, c, zs, rfl, _, hl, hm, hz, _, hcell, hwz⟩
  · exact ⟨none, 0, 0, [], rfl, ⟨rfl, Nat.le_refl _, by omega, .inl rfl⟩, fun x hx => by cases hx⟩
  · have hz' : zs.length = c := by simpa using hz
    refine ⟨_, _, _, zs.take l, rfl, ⟨by simp; omega, hl, by simpa [maxLen] using hm, ?_⟩, fun x hx => hwz x (List.mem_of_mem_take hx)⟩
    by_cases h0 : c = 0
    · exact .inl h0
    right
    have h1 := hcell 0 (by omega)
    obtain ⟨b, off, spot⟩ := x
    have hspot : spot = none := by simpa [Addr.add] using World.cell?_spot h1
    subst hspot
    have hlt : b < w.heap.size := by
      rw [add_none] at h1
      unfold World.cell? at h1
      rcases Nat.lt_or_ge b w.heap.size with hh | hh
      · exact hh
      · rw [Array.getElem?_eq_none hh] at h1; simp at h1
    refine ⟨b, off, rfl, hlt, hlt, fun j hj => ?_⟩
    have hj' : j < l ∧ j < zs.length := by simp at hj; omega
    have := hcell j hj'.2
    rw [add_none] at this
    rw [this, ints_get _ _ _ (by simp; omega)]
    simp [List.getD, hj'.1]
theorem in_acts {P : Program} {w : World} {H : Type} {enc : TypeId × Value → H} {r : Reach} {base : Nat} {T E TI E0 : TypeId} {f0 f1 : Field} {a : Option Addr} {len cap : Nat} {d : DataW H} {p : List MemPlace}
    (ht : P.underlying T = some (.slice E)) (hE : P.underlying E = some (.struct #[f0, f1])) (hc : P.cellsOf E = 2) (o0 : f0.offset = 0) (o1 : f1.offset = 1)
    (t0 : P.underlying f0.type = some (.int .i64)) (c0 : P.cellsOf f0.type = 1) (e1 : f1.type = TI) (t1 : P.underlying TI = some (.slice E0)) (c1 : P.cellsOf TI = 1) (he : P.underlying E0 = some (.int .i64)) (hc0 : P.cellsOf E0 = 1)
    (hok : Value.okWide P w r base T (.slice a len cap))
    (h : DataW.Trod enc P w 0 (fun _ => true) true T (.slice a len cap) d p) : ∃ as, SlA w a len cap as (fun b => b < w.heap.size) := by
  subst e1
  simp only [Value.okWide, ht, Cell.okWide, Cell.ok] at hok
  obtain ⟨fuel, hf⟩ := h
  rcases DataW.trod_slice ht hf with ⟨hcs, _⟩ | ⟨x, l, c, elems, rest, n, _, hcs, _, _, hl, hm, hlen, hel, _⟩
  · simp [Value.cells] at hcs
    obtain ⟨rfl, rfl, rfl⟩ := hcs
    exact ⟨[], rfl, Nat.le_refl _, by omega, .inl rfl, fun x hx => by cases hx⟩
  · simp [Value.cells] at hcs
    obtain ⟨rfl, rfl, rfl⟩ := hcs
    obtain ⟨_, hmax, _, hsp, row, cells, hshape, _⟩ := hok
    obtain ⟨b, off, spot⟩ := x
    simp only at hsp
    subst hsp
    have hlt : b < w.heap.size := by
      unfold World.shape? at hshape
      split at hshape
      · rename_i hh; exact (Array.getElem?_eq_some_iff.1 hh).1
      · cases hshape
    have key : ∀ i, i < len → ∃ x : ActC, Seg w b (off + i * 2) (actCells x) ∧ (SlE w .i64 x.a x.len x.cap x.xs (fun b => b < w.heap.size) ∧ -9223372036854775808 ≤ x.kind ∧ x.kind ≤ 9223372036854775807 ∧ ∀ n ∈ x.xs, (Lit.int .i64 n).wf = true) := by
      intro i hi
      have h1 := hel i hi
      have hy : elems[i]? = some (elems[i]'(by omega)) := by simp
      rw [hc, hy, Option.bind_eq_some_iff] at h1
      obtain ⟨cs', hcs, hy'⟩ := h1
      obtain ⟨y0, y1, m, _, hln, h2, h3⟩ := ChangeShapes.trod_struct2 hE hy'
      rw [o0, c0] at h2
      rw [o1, c1] at h3
      obtain ⟨v, hv, _, hw⟩ := DataW.trod_int t0 h2
      obtain ⟨a', len', cap', xs, hcs1, hsl, hwf⟩ := inner_ints t1 he hc0 h3
      rw [hc] at hln
      obtain ⟨_, _, hcell⟩ := World.cells?_some hcs
      match cs', hln with
      | [u0, u1], _ =>
        simp at hv hcs1
        subst hv
        subst hcs1
        refine ⟨⟨v, a', len', cap', xs⟩, fun j hj => ?_, hsl, (wf_i64 hw).1, (wf_i64 hw).2, hwf⟩
        have hj2 : j < 2 := by simpa [actCells] using hj
        have h4 := hcell j hj2
        rw [add_none, add_none] at h4
        exact h4
    let nth : Nat → ActC := fun i => if hi : i < len then (key i hi).choose else default
    have hnth : ∀ i (hi : i < len), nth i = (key i hi).choose := fun i hi => by simp only [nth, dif_pos hi]
    refine ⟨(List.range len).map nth, by simp, hl, by simpa [maxLen] using hm, .inr ⟨b, off, rfl, hlt, hlt, fun j hj => ?_⟩, fun x hx => ?_⟩
    · have e : ((List.range len).map nth).getD j default = nth j := by simp [List.getD, hj]
      rw [e, hnth j hj]
      exact (key j hj).choose_spec.1
    · simp at hx
      obtain ⟨j, hj, rfl⟩ := hx
      rw [hnth j hj]
      exact (key j hj).choose_spec.2
end Go.Kx
