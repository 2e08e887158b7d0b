/- Slices of structs of three numbers, that came in. Own work; nothing of a program is named here. -/
import Derived.Test.YtfngacepjcdlnaaDoorQKb
set_option linter.unusedVariables false
namespace Go.Kx
open Go
structure ActT where
 kind : Int
 m : Int
 c : Int
instance : Inhabited ActT := ⟨0, 0, 0⟩
def actT (x : ActT) : List Value := [.int .i64 x.kind, .int .i64 x.m, .int .u8 x.c]
structure ActT.wf (x : ActT) : Prop where
 kind : -9223372036854775808 ≤ x.kind ∧ x.kind ≤ 9223372036854775807
 m : -9223372036854775808 ≤ x.m ∧ x.m ≤ 9223372036854775807
 c : 0 ≤ x.c ∧ x.c ≤ 255
structure SlT (w : World) (a : Option Addr) (len cap : Nat) (as : List ActT) (D : Nat → Prop) : Prop where
 len_eq : as.length = len
 le : len ≤ cap
 max : cap ≤ 9223372036854775807
 mem : cap = 0 ∨ ∃ b off, a = some ⟨b, off, none⟩ ∧ b < w.heap.size ∧ D b ∧ ∀ j, j < len → Seg w b (off + j * 3) (actT (as.getD j default))
 inner : ∀ x ∈ as, x.wf
theorem SlT.kp {S D : Nat → Prop} {w w' : World} {a : Option Addr} {len cap : Nat} {as : List ActT} (h : SlT w a len cap as D) (hk : Kp S w w') (hb : ∀ b, D b → ¬ S b) : SlT w' a len cap as D := by
 refine ⟨h.len_eq, h.le, h.max, h.mem.imp id ?_, h.inner⟩
 rintro ⟨b, off, rfl, hl, hd, hs⟩
 exact ⟨b, off, rfl, Nat.lt_of_lt_of_le hl hk.size, hd, fun j hj => (hs j hj).kp hk (hb b hd) hl⟩
theorem SlT.kpn {D : Nat → Prop} {w w' : World} {a : Option Addr} {len cap : Nat} {as : List ActT} (h : SlT w a len cap as D) (hk : Kp No w w') : SlT w' a len cap as D := h.kp hk fun _ _ => id
theorem SlT.get {D : Nat → Prop} {w : World} {a : Option Addr} {len cap : Nat} {as : List ActT} (h : SlT w a len cap as D) {j : Nat} (hj : j < len) :
  ∃ b off, a = some ⟨b, off, none⟩ ∧ ∃ x : ActT, as[j]? = some x ∧ Seg w b (off + j * 3) (actT x) ∧ D b ∧ x.wf := by
 have hl := h.len_eq
 rcases h.mem with h0 | ⟨b, off, rfl, _, hd, hs⟩
 ·have := h.le; omega
 have e : as.getD j default = as[j] := by simp [List.getD, show j < as.length by omega]
 have hx := h.inner _ (List.getElem_mem (show j < as.length by omega))
 have h1 := hs j hj
 rw [e] at h1
 exact ⟨b, off, rfl, as[j], by simp, h1, hd, hx⟩
theorem in_actsT {P : Program} {w : World} {H : Type} {enc : TypeId × Value → H} {r : Reach} {base : Nat} {T E : TypeId} {f0 f1 f2 : Field} {a : Option Addr} {len cap : Nat} {d : DataW H} {p : List MemPlace}
  (ht : P.underlying T = some (.slice E)) (hE : P.underlying E = some (.struct #[f0, f1, f2])) (hc : P.cellsOf E = 3) (o0 : f0.offset = 0) (o1 : f1.offset = 1) (o2 : f2.offset = 2)
  (t0 : P.underlying f0.type = some (.int .i64)) (c0 : P.cellsOf f0.type = 1) (t1 : P.underlying f1.type = some (.int .i64)) (c1 : P.cellsOf f1.type = 1) (t2 : P.underlying f2.type = some (.int .u8)) (c2 : P.cellsOf f2.type = 1)
  (hok : Value.okWide P w r base T (.slice a len cap))
  (h : DataW.Trod enc P w 0 (fun _ => true) true T (.slice a len cap) d p) : ∃ as, SlT w a len cap as (fun b => b < w.heap.size) := by
 simp only [Value.okWide, ht, Cell.okWide, Cell.ok] at hok
 obtain ⟨fuel, hf⟩ := h
 rcases DataW.trod_slice ht hf with ⟨hcs, _⟩ | ⟨x, l, c, elems, rest, n, _, hcs, _, _, hl, hm, hlen, hel, _⟩
 ·simp [Value.cells] at hcs
  obtain ⟨rfl, rfl, rfl⟩ := hcs
  exact ⟨[], rfl, Nat.le_refl _, by omega, .inl rfl, fun x hx => by cases hx⟩
 ·simp [Value.cells] at hcs
  obtain ⟨rfl, rfl, rfl⟩ := hcs
  obtain ⟨_, hmax, _, hsp, row, cells, hshape, _⟩ := hok
  obtain ⟨b, off, spot⟩ := x
  simp only at hsp
  subst hsp
  have hlt : b < w.heap.size := by
   unfold World.shape? at hshape
   split at hshape
   ·rename_i hh; exact (Array.getElem?_eq_some_iff.1 hh).1
   ·cases hshape
  have key : ∀ i, i < len → ∃ x : ActT, Seg w b (off + i * 3) (actT x) ∧ x.wf := by
   intro i hi
   have h1 := hel i hi
   have hy : elems[i]? = some (elems[i]'(by omega)) := by simp
   rw [hc, hy, Option.bind_eq_some_iff] at h1
   obtain ⟨cs', hcs, hy'⟩ := h1
   obtain ⟨xs, m, _, _, hln, hxl, hfl⟩ := DataW.trod_struct hE hy'
   have hxl3 : xs.length = 3 := by simpa using hxl
   match xs, hxl3 with
   | [y0, y1, y2], _ =>
    have g0 := by simpa using hfl 0 f0 rfl
    have g1 := by simpa using hfl 1 f1 rfl
    have g2 := by simpa using hfl 2 f2 rfl
    rw [o0, c0] at g0
    rw [o1, c1] at g1
    rw [o2, c2] at g2
    obtain ⟨v0, hv0, _, hw0⟩ := DataW.trod_int t0 g0
    obtain ⟨v1, hv1, _, hw1⟩ := DataW.trod_int t1 g1
    obtain ⟨v2, hv2, _, hw2⟩ := DataW.trod_int t2 g2
    rw [hc] at hln
    obtain ⟨_, _, hcell⟩ := World.cells?_some hcs
    match cs', hln with
    | [u0, u1, u2], _ =>
     simp at hv0 hv1 hv2
     subst hv0; subst hv1; subst hv2
     have hb2 := wf_bounds hw2
     refine ⟨⟨v0, v1, v2⟩, fun j hj => ?_, ⟨wf_i64 hw0, wf_i64 hw1, hb2⟩⟩
     have hj2 : j < 3 := by simpa [actT] using hj
     have h4 := hcell j hj2
     rw [add_none, add_none] at h4
     exact h4
  let nth : Nat → ActT := fun i => if hi : i < len then (key i hi).choose else default
  have hnth : ∀ i (hi : i < len), nth i = (key i hi).choose := fun i hi => by simp only [nth, dif_pos hi]
  refine ⟨(List.range len).map nth, by simp, hl, by simpa [maxLen] using hm, .inr ⟨b, off, rfl, hlt, hlt, fun j hj => ?_⟩, fun x hx => ?_⟩
  ·have e : ((List.range len).map nth).getD j default = nth j := by simp [List.getD, hj]
   rw [e, hnth j hj]
   exact (key j hj).choose_spec.1
  ·simp at hx
   obtain ⟨j, hj, rfl⟩ := hx
   rw [hnth j hj]
   exact (key j hj).choose_spec.2
end Go.Kx
