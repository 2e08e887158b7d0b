/- What comes in: how the arguments of a law are opened. Own work; nothing of a program is named here. -/
import Derived.Test.YtogfkmejgjodaaaKe
import Derived.ProofKit
namespace Go.Kx
open Go
/-- A struct or an array of whole numbers that came in. -/
theorem open_flat {P : Program} {w : World} {r : Reach} {base T : Nat} {v : Value} {ks : List IntKind} {ts : List TypeId} [hT : TFlat P T ks] (h : Value.okWide P w r base T v)
    (ht : P.cellTypes P.depth T = some ts) (hk : ts.map (fun u => P.underlying u) = ks.map (fun k => some (TypeDesc.int k))) (hc : P.cellsOf T = ks.length) :
    ∃ xs, v = .agg (mkI ks xs).toArray ∧ ks.length = xs.length ∧ ∀ (i : Nat) (k : IntKind), ks[i]? = some k → k.has (xs.getD i 0) := by
  have ha := hT.a
  unfold isAggB at ha
  unfold Value.okWide at h
  have hagg : ∃ cs, v = .agg cs ∧ cs.size = P.cellsOf T ∧ Row.okWide P w r base T cs := by
    cases hu : P.underlying T with
    | none => simp [hu] at ha
    | some d => cases d <;> simp only [hu] at ha h <;> first | exact h | simp at ha
  obtain ⟨cs, rfl, hsz, ts', ht', ⟨m, hm⟩, hcs⟩ := hagg
  rw [ht] at ht'
  injection ht' with ht'
  subst ht'
  have hlen : ts.length = ks.length := by have := congrArg List.length hk; simpa using this
  have hsz' : cs.size = ks.length := by rw [hsz, hc]
  have key : ∀ (i : Nat) (k : IntKind), ks[i]? = some k → ∃ x : Int, cs[i]? = some (Value.int k x) ∧ k.has x := by
    intro i k hi
    have hlt : i < ks.length := (List.getElem?_eq_some_iff.1 hi).1
    obtain ⟨v, hv⟩ : ∃ v, cs[i]? = some v := ⟨cs[i]'(by omega), by simp [show i < cs.size by omega]⟩
    obtain ⟨u, hu, hok⟩ := hcs i v hv
    rw [Nat.mod_eq_of_lt (by omega)] at hu
    have h1 := congrArg (fun l : List (Option TypeDesc) => l[i]?) hk
    simp only [List.getElem?_map, hu, hi, Option.map_some, Option.some.injEq] at h1
    unfold Cell.okWide at hok
    rw [h1] at hok
    simp only [Cell.ok, h1] at hok
    split at hok <;> first | exact hok.elim | (rename_i h2 _; simp at h2; done) | skip
    all_goals simp_all
  let nth : Nat → Int := fun i => match cs[i]? with | some (.int _ x) => x | _ => 0
  refine ⟨(List.range ks.length).map nth, ?_, by simp, ?_⟩
  · congr 1
    apply Array.ext'
    apply List.ext_getElem?
    intro i
    rcases Nat.lt_or_ge i ks.length with hlt | hge
    · obtain ⟨x, hx, _⟩ := key i ks[i] (by simp [hlt])
      have hn : nth i = x := by simp only [nth, hx]
      rw [show cs.toList[i]? = some (.int ks[i] x) by simpa using hx]
      simp [mkI, List.getElem?_zipWith, hlt, hn]
    · have h1 : cs.toList[i]? = none := by simp; omega
      rw [h1]
      simp [mkI, List.getElem?_zipWith, List.getElem?_eq_none hge]
  · intro i k hi
    obtain ⟨x, hx, hh⟩ := key i k hi
    have hlt : i < ks.length := (List.getElem?_eq_some_iff.1 hi).1
    have hn : nth i = x := by simp only [nth, hx]
    simp [List.getD, hlt, hn, hh]
end Go.Kx
