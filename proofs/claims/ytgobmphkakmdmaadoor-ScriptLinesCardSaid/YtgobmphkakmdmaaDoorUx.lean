/- ScriptLines: the plain law. -/
import Derived.Test.YtgobmphkakmdmaaDoorUv
import Derived.Test.YtgobmphkakmdmaaDoorUw
set_option linter.unusedVariables false
namespace Go.Proofs.YtgobmphkakmdmaaDoor
open Go Go.Kx Go.Sc
theorem plain_kind (x : DeedC) : x.plain.kind = x.kind.toNat := rfl
/-- A field that the kind has not is nought on both sides. -/
theorem same_off {x y : DeedC} {l : List Fld} {f : Fld} (h : f ∉ l) : Sc.same (onlyP x l).plain (onlyP y l).plain f := by
  cases f <;> simp [Sc.same, onlyP, DeedC.plain, h]
/-- Deeds with just what their kinds have are the same just if their lines are. -/
theorem lines_iff (x y : DeedC) (hx : 0 ≤ x.kind ∧ x.kind < 26) (hy : 0 ≤ y.kind ∧ y.kind < 26) : (lineD (onlyD x).plain = lineD (onlyD y).plain) ↔ sameB (onlyD x) (onlyD y) = true := by
  have kx : (onlyD x).plain.kind = x.kind.toNat := rfl
  have ky : (onlyD y).plain.kind = y.kind.toNat := rfl
  rw [lineD_iff _ _ (by rw [kx]; omega) (by rw [ky]; omega), kx, ky]
  have hs : sameB (onlyD x) (onlyD y) = true ↔ ((onlyD x).kind = (onlyD y).kind ∧ ∀ f : Fld, Sc.same (onlyD x).plain (onlyD y).plain f) := by
    unfold sameB
    rw [Bool.and_eq_true, decide_eq_true_eq, decide_eq_true_eq]
    constructor
    · rintro ⟨h1, h2, h3, h4, h5, h6, h7, h8⟩
      refine ⟨h2, fun f => ?_⟩
      cases f
      · exact h6
      · exact h7
      · exact h8
      · exact h1
      · exact h3
      · exact h4
      · exact h5
    · rintro ⟨h1, h2⟩
      exact ⟨h2 .l, h1, h2 .n, h2 .m, h2 .k, h2 .p, h2 .a, h2 .b⟩
  rw [hs]
  constructor
  · rintro ⟨h1, h2⟩
    have hk : x.kind = y.kind := by omega
    refine ⟨hk, fun f => ?_⟩
    by_cases hf : f ∈ flds x.kind.toNat
    · exact h2 f hf
    · unfold onlyD
      rw [← hk]
      exact same_off hf
  · rintro ⟨h1, h2⟩
    have hk : x.kind = y.kind := h1
    exact ⟨by rw [hk], fun f _ => h2 f⟩
theorem prn_one {x : DeedC} (h : (prn [x]).2 = 0) : (prn [x]).1 = lineD x.plain ++ [10] ∧ (lineD x.plain).length ≤ 4096 := by
  have h0 : ∀ y ∈ [x], errD y = 0 := goD_ok.1 h
  have h1 : (prn [x]).1 = txt [x] := goD_text h
  have h2 := txt_len h0
  have e : txt [x] = lineD x.plain ++ [10] := by simp [txt]
  rw [e] at h1 h2
  rw [List.length_append] at h2
  simp at h2
  exact ⟨h1, by omega⟩
theorem line_pre (d : Deed) : ∃ r, lineD d = nameB d.kind ++ r := ⟨_, line_flat 32 _ _⟩
end Go.Proofs.YtgobmphkakmdmaaDoor
