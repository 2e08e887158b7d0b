/- The plain law of SpaceActs: Take. -/
import Derived.Test.YtogfkmejgjodaaaRg
set_option linter.unusedVariables false
namespace Go.Proofs.Ytogfkmejgjodaaa
open Go Go.Kx
theorem Tie.takeR {first : Int} {st U G : List Int} (h : Tie first st U G) :
    ((∀ n, ¬ freeP first (first + st.length) U G n) ∧ tk first st = (0, 12, st)) ∨
    ∃ n, freeP first (first + st.length) U G n ∧ (∀ n', n' < n → ¬ freeP first (first + st.length) U G n') ∧ tk first st = (n, 0, st.set (n - first).toNat 1) ∧ Tie first (st.set (n - first).toNat 1) (putL n U) G := by
  rcases tk_cases first st with ⟨h0, e⟩ | ⟨j, hj, hz, hb, e⟩
  · refine .inl ⟨fun n hn => ?_, e⟩
    obtain ⟨h1, h2, h3⟩ := (stAt_in (by omega)).1 ((h.free n).1 hn)
    rw [List.count_eq_zero] at h0
    rw [getD_lt (by omega)] at h3
    exact h0 (h3 ▸ List.getElem_mem _)
  · have ej : (first + (j : Int) - first).toNat = j := by omega
    have hs : stAt first st (first + (j : Int)) = 0 := (stAt_in (by omega)).2 ⟨by omega, by omega, by rw [ej]; exact hz⟩
    refine .inr ⟨first + (j : Int), (h.free _).2 hs, fun n' hn' hf => ?_, by rw [ej]; exact e, h.take hs⟩
    obtain ⟨h1, h2, h3⟩ := (stAt_in (by omega)).1 ((h.free n').1 hf)
    exact hb _ (by omega) h3
theorem least_one {p : Int → Prop} {a b : Int} (ha : p a) (hb : p b) (la : ∀ n, n < a → ¬ p n) (lb : ∀ n, n < b → ¬ p n) : a = b := by
  rcases Int.lt_trichotomy a b with h | h | h
  · exact absurd ha (lb _ h)
  · exact h
  · exact absurd hb (la _ h)
end Go.Proofs.Ytogfkmejgjodaaa
