/- Deeds that came in. -/
import Derived.Test.YtgobmphkakmdmaaDoorUm
import Derived.Test.YtgobmphkakmdmaaDoorKf
import Derived.Test.YtgobmphkakmdmaaDoorKm
import Derived.ChangeSame
import Derived.ChangeSlices
set_option linter.unusedVariables false
namespace Go.Proofs.YtgobmphkakmdmaaDoor
open Go Go.Kx Go.Sc
--@def DT := 32
--@def DS := 22
theorem bs8_of {xs : List Int} (h : ∀ x ∈ xs, (Lit.int .u8 x).wf = true) : ∃ l : List UInt8, xs = bs8 l := by
  induction xs with
  | nil => exact ⟨[], rfl⟩
  | cons a xs ih =>
    obtain ⟨l, rfl⟩ := ih fun x hx => h x (List.mem_cons_of_mem _ hx)
    have hb := wf_bounds (h a (List.mem_cons_self ..))
    have h1 : (0 : Int) ≤ a := hb.1
    have h2 : a ≤ 255 := hb.2
    refine ⟨UInt8.ofNat a.toNat :: l, ?_⟩
    simp only [bs8, List.map_cons, List.cons.injEq, and_true, ub, UInt8.toNat_ofNat']
    omega
theorem in64_of {n : Int} (h : (Lit.int .i64 n).wf = true) : in64 n := wf_i64 h
theorem strV_of (s : ByteArray) : Value.string s = strV s.data.toList := by cases s; rfl
set_option maxRecDepth 100000 in
theorem list8 {α : Type} {l : List α} (h : l.length = 8) : ∃ a b c d e f g i : α, l = [a, b, c, d, e, f, g, i] := by
  rcases l with _ | ⟨a, _ | ⟨b, _ | ⟨c, _ | ⟨d, _ | ⟨e, _ | ⟨f, _ | ⟨g, _ | ⟨i, _ | ⟨j, l⟩⟩⟩⟩⟩⟩⟩⟩⟩ <;> simp at h
  exact ⟨a, b, c, d, e, f, g, i, rfl⟩
set_option maxRecDepth 100000 in
theorem deed_in {w : World} {H : Type} {enc : TypeId × Value → H} {fuel : Nat} {cs : List Value} {y : DataW H × List MemPlace}
    (h : DataW.trod enc Tryd.prog w 0 (fun _ => true) true fuel 32 cs = some y) : ∃ x : DeedC, cs = dC x ∧ DOk w x (fun b => b < w.heap.size) := by
  obtain ⟨xs, n, _, _, hcl, hlen, hf⟩ := DataW.trod_struct Tryd.underlying32 h
  have c8 : Tryd.prog.cellsOf 32 = 8 := by kernel_rfl
  have ci : Tryd.prog.cellsOf 3 = 1 := by kernel_rfl
  have cs1 : Tryd.prog.cellsOf 9 = 1 := by kernel_rfl
  have cb : Tryd.prog.cellsOf 29 = 1 := by kernel_rfl
  have ck : Tryd.prog.cellsOf 30 = 1 := by kernel_rfl
  rw [c8] at hcl
  replace hlen : xs.length = 8 := hlen
  obtain ⟨u0, u1, u2, u3, u4, u5, u6, u7, rfl⟩ := list8 hcl
  obtain ⟨y0, y1, y2, y3, y4, y5, y6, y7, rfl⟩ := list8 hlen
  have h0 : DataW.trod enc Tryd.prog w 0 (fun _ => true) true n 3 (([u0, u1, u2, u3, u4, u5, u6, u7].drop 0).take (Tryd.prog.cellsOf 3)) = some y0 := hf 0 _ rfl
  have h1 : DataW.trod enc Tryd.prog w 0 (fun _ => true) true n 3 (([u0, u1, u2, u3, u4, u5, u6, u7].drop 1).take (Tryd.prog.cellsOf 3)) = some y1 := hf 1 _ rfl
  have h2 : DataW.trod enc Tryd.prog w 0 (fun _ => true) true n 3 (([u0, u1, u2, u3, u4, u5, u6, u7].drop 2).take (Tryd.prog.cellsOf 3)) = some y2 := hf 2 _ rfl
  have h3 : DataW.trod enc Tryd.prog w 0 (fun _ => true) true n 3 (([u0, u1, u2, u3, u4, u5, u6, u7].drop 3).take (Tryd.prog.cellsOf 3)) = some y3 := hf 3 _ rfl
  have h4 : DataW.trod enc Tryd.prog w 0 (fun _ => true) true n 9 (([u0, u1, u2, u3, u4, u5, u6, u7].drop 4).take (Tryd.prog.cellsOf 9)) = some y4 := hf 4 _ rfl
  have h5 : DataW.trod enc Tryd.prog w 0 (fun _ => true) true n 9 (([u0, u1, u2, u3, u4, u5, u6, u7].drop 5).take (Tryd.prog.cellsOf 9)) = some y5 := hf 5 _ rfl
  have h6 : DataW.trod enc Tryd.prog w 0 (fun _ => true) true n 29 (([u0, u1, u2, u3, u4, u5, u6, u7].drop 6).take (Tryd.prog.cellsOf 29)) = some y6 := hf 6 _ rfl
  have h7 : DataW.trod enc Tryd.prog w 0 (fun _ => true) true n 30 (([u0, u1, u2, u3, u4, u5, u6, u7].drop 7).take (Tryd.prog.cellsOf 30)) = some y7 := hf 7 _ rfl
  rw [ci] at h0 h1 h2 h3
  rw [cs1] at h4 h5
  rw [cb] at h6
  rw [ck] at h7
  obtain ⟨a, e0, _, w0⟩ := DataW.trod_int Tryd.underlying3 h0
  obtain ⟨n1, e1, _, w1⟩ := DataW.trod_int Tryd.underlying3 h1
  obtain ⟨m1, e2, _, w2⟩ := DataW.trod_int Tryd.underlying3 h2
  obtain ⟨k1, e3, _, w3⟩ := DataW.trod_int Tryd.underlying3 h3
  obtain ⟨p1, e4, _, w4⟩ := DataW.trod_string Tryd.underlying9 h4
  obtain ⟨q1, e5, _, w5⟩ := DataW.trod_string Tryd.underlying9 h5
  obtain ⟨ba, bl, bc, bx, e6, hb, wb⟩ := inner_ints (k := .u8) Tryd.underlying29 Tryd.underlying5 (by kernel_rfl) h6
  obtain ⟨ka, kl, kc, kx, e7, hk, wk⟩ := inner_ints (k := .i64) Tryd.underlying30 Tryd.underlying3 (by kernel_rfl) h7
  obtain ⟨l, rfl⟩ := bs8_of wb
  have hbl := hb.len_eq
  have hkl := hk.len_eq
  rw [bs8_len] at hbl
  subst hbl
  subst hkl
  simp only [List.drop_succ_cons, List.drop_zero, List.take_succ_cons, List.take_zero, List.cons.injEq, and_true] at e0 e1 e2 e3 e4 e5 e6 e7
  subst e0 e1 e2 e3 e4 e5 e6 e7
  refine ⟨⟨a, n1, m1, k1, p1.data.toList, q1.data.toList, ba, bc, l, ka, kc, kx⟩, ?_, ⟨hb, hk, in64_of w0, in64_of w1, in64_of w2, in64_of w3, fun x hx => in64_of (wk x hx)⟩⟩
  simp only [dC, strV_of]
set_option maxRecDepth 100000 in
theorem deeds_in {w : World} {H : Type} {enc : TypeId × Value → H} {r : Reach} {base : Nat} {a : Option Addr} {len cap : Nat} {d : DataW H} {p : List MemPlace}
    (hok : Value.okWide Tryd.prog w r base 22 (.slice a len cap)) (h : DataW.Trod enc Tryd.prog w 0 (fun _ => true) true 22 (.slice a len cap) d p) : ∃ xs, SlD w a len cap xs (fun b => b < w.heap.size) := by
  have ht : Tryd.prog.underlying 22 = some (.slice 32) := Tryd.underlying22
  have c8 : Tryd.prog.cellsOf 32 = 8 := by kernel_rfl
  simp only [Value.okWide, ht, Cell.okWide, Cell.ok] at hok
  obtain ⟨fuel, hf⟩ := h
  rcases DataW.trod_slice ht hf with ⟨hcs, _⟩ | ⟨x, l, c, elems, rest, n, _, hcs, _, _, hl, hm, hlen, hel, _⟩
  · simp [Value.cells] at hcs
    obtain ⟨rfl, rfl, rfl⟩ := hcs
    exact ⟨[], rfl, Nat.le_refl _, by omega, .inl rfl, fun x hx => by cases hx⟩
  · simp [Value.cells] at hcs
    obtain ⟨rfl, rfl, rfl⟩ := hcs
    obtain ⟨_, hmax, _, hsp, row, cells, hshape, _⟩ := hok
    obtain ⟨b, off, spot⟩ := x
    simp only at hsp
    subst hsp
    have hlt : b < w.heap.size := by
      unfold World.shape? at hshape
      split at hshape
      · rename_i hh; exact (Array.getElem?_eq_some_iff.1 hh).1
      · cases hshape
    have key : ∀ i, i < len → ∃ x : DeedC, Seg w b (off + i * 8) (dC x) ∧ DOk w x (fun b => b < w.heap.size) := by
      intro i hi
      have h1 := hel i hi
      have hy : elems[i]? = some (elems[i]'(by omega)) := by simp
      rw [c8, hy, Option.bind_eq_some_iff] at h1
      obtain ⟨cs', hcs, hy'⟩ := h1
      obtain ⟨x, rfl, hx⟩ := deed_in hy'
      obtain ⟨_, _, hcell⟩ := World.cells?_some hcs
      refine ⟨x, fun j hj => ?_, hx⟩
      have hj2 : j < 8 := by simpa [dC] using hj
      have h4 := hcell j hj2
      rw [add_none, add_none] at h4
      exact h4
    let nth : Nat → DeedC := fun i => if hi : i < len then (key i hi).choose else default
    have hnth : ∀ i (hi : i < len), nth i = (key i hi).choose := fun i hi => by simp only [nth, dif_pos hi]
    refine ⟨(List.range len).map nth, by simp, hl, by simpa [maxLen] using hm, .inr ⟨b, off, rfl, hlt, hlt, fun j hj => ?_⟩, fun x hx => ?_⟩
    · have e : ((List.range len).map nth).getD j default = nth j := by simp [List.getD, hj]
      rw [e, hnth j hj]
      exact (key j hj).choose_spec.1
    · simp at hx
      obtain ⟨j, hj, rfl⟩ := hx
      rw [hnth j hj]
      exact (key j hj).choose_spec.2
end Go.Proofs.YtgobmphkakmdmaaDoor
