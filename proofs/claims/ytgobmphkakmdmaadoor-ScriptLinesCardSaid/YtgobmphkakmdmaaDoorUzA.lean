/- ScriptLines: its arguments. -/
import Derived.Test.YtgobmphkakmdmaaDoorUz
import Derived.Test.YtgobmphkakmdmaaDoorUq
set_option linter.unusedVariables false
namespace Go.Proofs.YtgobmphkakmdmaaDoor
open Go Go.Kx Go.Sc
set_option maxRecDepth 100000 in
theorem deed_open {w : World} {H : Type} {enc : TypeId × Value → H} {r : Reach} {base : Nat} {v : Value} {d : DataW H} {p : List MemPlace}
    (hok : Value.okWide Tryd.prog w r base 32 v) (h : DataW.Trod enc Tryd.prog w 0 (fun _ => true) true 32 v d p) : ∃ x : DeedC, v = .agg (dC x).toArray ∧ DOk w x (fun b => b < w.heap.size) := by
  unfold Value.okWide at hok
  simp only [Tryd.underlying32] at hok
  obtain ⟨cs, rfl, _, _⟩ := hok
  obtain ⟨fuel, hf⟩ := h
  obtain ⟨x, hx, hd⟩ := deed_in hf
  refine ⟨x, ?_, hd⟩
  have : cs.toList = dC x := by simpa [Value.cells] using hx
  rw [← this, Array.toArray_toList]
theorem lines_in (W : World) (hL : Lad W) (x : DeedC) (hx : DOk W x (fun b => b < W.heap.size)) (y : DeedC) (hy : DOk W y (fun b => b < W.heap.size)) :
    Calls Tryd.prog 4 #[.agg (dC x).toArray, .agg (dC y).toArray] W fun e W' => e = .returned (.bool true) ∧ RowKit.Below W.heap.size W W' := by
  refine (lines_calls x y W hx hy hL).mono ?_
  rintro _ w ⟨rfl, k⟩
  exact ⟨rfl, k.below⟩
end Go.Proofs.YtgobmphkakmdmaaDoor
