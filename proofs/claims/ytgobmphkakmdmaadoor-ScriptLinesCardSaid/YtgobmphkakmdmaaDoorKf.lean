/- What comes in: how the arguments of a law are opened. Own work; nothing of a program is named here. -/
import Derived.Test.YtgobmphkakmdmaaDoorKh
import Derived.ProofKit
namespace Go.Kx
open Go
/-- A struct or an array of whole numbers that came in. -/
theorem open_flat {P : Program} {w : World} {r : Reach} {base T : Nat} {v : Value} {ks : List IntKind} {ts : List TypeId} [hT : TFlat P T ks] (h : Value.okWide P w r base T v)
    (ht : P.cellTypes P.depth T = some ts) (hk : ts.map (fun u => P.underlying u) = ks.map (fun k => some (TypeDesc.int k))) (hc : P.cellsOf T = ks.length) :
    ∃ xs, v = .agg (mkI ks xs).toArray ∧ ks.length = xs.length ∧ ∀ (i : Nat) (k : IntKind), ks[i]? = some k → k.has (xs.getD i 0) := by
  have ha := hT.a
  unfold isAggB at ha
  unfold Value.okWide at h
  have hagg : ∃ cs, v = .agg cs ∧ cs.size = P.cellsOf T ∧ Row.okWide P w r base T cs := by
    cases hu : P.underlying T with
    | none => simp [hu] at ha
    | some d => cases d <;> simp only [hu] at ha h <;> first | exact h | simp at ha
  obtain ⟨cs, rfl, hsz, ts', ht', ⟨m, hm⟩, hcs⟩ := hagg
  rw [ht] at ht'
  injection ht' with ht'
  subst ht'
  have hlen : ts.length = ks.length := by have := congrArg List.length hk; simpa using this
  have hsz' : cs.size = ks.length := by rw [hsz, hc]
  have key : ∀ (i : Nat) (k : IntKind), ks[i]? = some k → ∃ x : Int, cs[i]? = some (Value.int k x) ∧ k.has x := by
    intro i k hi
    have hlt : i < ks.length := (List.getElem?_eq_some_iff.1 hi).1
    obtain ⟨v, hv⟩ : ∃ v, cs[i]? = some v := ⟨cs[i]'(by omega), by simp [show i < cs.size by omega]⟩
    obtain ⟨u, hu, hok⟩ := hcs i v hv
    rw [Nat.mod_eq_of_lt (by omega)] at hu
    have h1 := congrArg (fun l : List (Option TypeDesc) => l[i]?) hk
    simp only [List.getElem?_map, hu, hi, Option.map_some, Option.some.injEq] at h1
    unfold Cell.okWide at hok
    rw [h1] at hok
    simp only [Cell.ok, h1] at hok
    split at hok <;> first | exact hok.elim | (rename_i h2 _; simp at h2; done) | skip
    all_goals simp_all
  let nth : Nat → Int := fun i => match cs[i]? with | some (.int _ x) => x | _ => 0
  refine ⟨(List.range ks.length).map nth, ?_, by simp, ?_⟩
  · congr 1
    apply Array.ext'
    apply List.ext_getElem?
    intro i
    rcases Nat.lt_or_ge i ks.length with hlt | hge
    · obtain ⟨x, hx, _⟩ := key i ks[i] (by simp [hlt])
      have hn : nth i = x := by simp only [nth, hx]
      rw [show cs.toList[i]? = some (.int ks[i] x) by simpa using hx]
      simp [mkI, hlt, hn]
    · have h1 : cs.toList[i]? = none := by simp; omega
      rw [h1]
      simp [mkI, List.getElem?_zipWith, List.getElem?_eq_none hge]
  · intro i k hi
    obtain ⟨x, hx, hh⟩ := key i k hi
    have hlt : i < ks.length := (List.getElem?_eq_some_iff.1 hi).1
    have hn : nth i = x := by simp only [nth, hx]
    simp [List.getD, hlt, hn, hh]
/-- What a row is told of a slice of whole numbers that came in. -/
theorem in_ints {P : Program} {w : World} {H : Type} {enc : TypeId × Value → H} {r : Reach} {base : Nat} {T E : TypeId} {k : IntKind} {a : Option Addr} {len cap : Nat} {d : DataW H} {p : List MemPlace}
    (ht : P.underlying T = some (.slice E)) (he : P.underlying E = some (.int k)) (hc : P.cellsOf E = 1) (hok : Value.okWide P w r base T (.slice a len cap))
    (h : DataW.Trod enc P w 0 (fun _ => true) true T (.slice a len cap) d p) : ∃ xs, Sl w k a len cap xs ∧ ∀ x ∈ xs, (Lit.int k x).wf = true := by
  simp only [Value.okWide, ht, Cell.okWide, Cell.ok] at hok
  obtain ⟨fuel, hf⟩ := h
  rcases ChangeShapes.open_ints ht he hc hf with ⟨hcs, _⟩ | ⟨x, l, c, zs, hcs, _, hl, hm, hz, _, hcell, hwz⟩
  · simp [Value.cells] at hcs
    obtain ⟨rfl, rfl, rfl⟩ := hcs
    exact ⟨[], ⟨rfl, Nat.le_refl _, by omega, .inl ⟨rfl, rfl⟩⟩, fun x hx => by cases hx⟩
  · simp [Value.cells] at hcs
    obtain ⟨rfl, rfl, rfl⟩ := hcs
    obtain ⟨_, hmax, _, hsp, row, cells, hshape, _⟩ := hok
    obtain ⟨b, off, spot⟩ := x
    simp only at hsp
    subst hsp
    have hz' : zs.length = cap := by simpa using hz
    have hlt : b < w.heap.size := by
      unfold World.shape? at hshape
      split at hshape
      · rename_i hh; exact (Array.getElem?_eq_some_iff.1 hh).1
      · cases hshape
    refine ⟨zs.take len, ⟨by simp; omega, hl, by simpa [maxLen] using hm, .inr ⟨b, off, rfl, hlt, fun j hj => ?_⟩⟩, fun x hx => hwz x (List.mem_of_mem_take hx)⟩
    have hj' : j < len ∧ j < zs.length := by simp at hj; omega
    have := hcell j hj'.2
    rw [add_none] at this
    rw [this, ints_get _ _ _ (by simp; omega)]
    simp [List.getD, hj'.1]
theorem wf_i64 {x : Int} (h : (Lit.int .i64 x).wf = true) : -9223372036854775808 ≤ x ∧ x ≤ 9223372036854775807 := by
  have h1 : IntKind.i64.min = -9223372036854775808 := rfl
  simpa [Lit.wf, h1] using h
theorem wf_bounds {k : IntKind} {x : Int} (h : (Lit.int k x).wf = true) : k.min ≤ x ∧ x ≤ k.max := by
  simpa [Lit.wf] using h
end Go.Kx
