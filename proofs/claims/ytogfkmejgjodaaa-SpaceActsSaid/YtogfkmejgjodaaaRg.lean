/- The plain law of SpaceActs: the row of states and the reference's lists. -/
import Derived.Test.YtogfkmejgjodaaaRe
import Derived.Test.YtogfkmejgjodaaaRf
set_option linter.unusedVariables false
namespace Go.Proofs.Ytogfkmejgjodaaa
open Go Go.Kx
/-- What a sector is; -1: it is none of this space. -/
def stAt (first : Int) (st : List Int) (x : Int) : Int := if first ≤ x ∧ x - first < st.length then st.getD (x - first).toNat 0 else -1
theorem stAt_in {first : Int} {st : List Int} {x v : Int} (hv : v ≠ -1) : stAt first st x = v ↔ first ≤ x ∧ x - first < st.length ∧ st.getD (x - first).toNat 0 = v := by
  unfold stAt
  split
  · rename_i h; exact ⟨fun e => ⟨h.1, h.2, e⟩, fun e => e.2.2⟩
  · rename_i h; exact ⟨fun e => absurd e.symm hv, fun e => absurd ⟨e.1, e.2.1⟩ h⟩
theorem stAt_set {first : Int} {st : List Int} {x v : Int} (h : first ≤ x) (h2 : x - first < st.length) (y : Int) : stAt first (st.set (x - first).toNat v) y = if y = x then v else stAt first st y := by
  unfold stAt
  rw [List.length_set]
  by_cases c : first ≤ y ∧ y - first < st.length
  · rw [if_pos c, if_pos c, getD_set _ _ _ _ (by omega)]
    by_cases e : y = x
    · subst e; rw [if_pos rfl, if_pos rfl]
    · rw [if_neg e, if_neg (by omega)]
  · rw [if_neg c, if_neg c]
    rw [if_neg (fun e => c (by subst e; exact ⟨h, h2⟩))]
theorem usedL_stAt (first : Int) (st : List Int) (x : Int) : x ∈ usedL first st ↔ stAt first st x = 1 := by
  rw [usedL_mem, stAt_in (by omega)]
  constructor
  · rintro ⟨j, hj, rfl, h⟩
    exact ⟨by omega, by omega, by rw [show (first + (j : Int) - first).toNat = j by omega]; exact h⟩
  · rintro ⟨h1, h2, h3⟩
    exact ⟨(x - first).toNat, by omega, by omega, h3⟩
/-- Two rising lists of the same numbers are one. -/
theorem rising_eq : ∀ {xs ys : List Int}, xs.Pairwise (· < ·) → ys.Pairwise (· < ·) → (∀ x, x ∈ xs ↔ x ∈ ys) → xs = ys := by
  intro xs
  induction xs with
  | nil =>
    intro ys _ _ h
    cases ys with
    | nil => rfl
    | cons y ys => exact absurd ((h y).2 (List.mem_cons_self ..)) (by simp)
  | cons x xs ih =>
    intro ys hx hy h
    cases ys with
    | nil => exact absurd ((h x).1 (List.mem_cons_self ..)) (by simp)
    | cons y ys =>
      rw [List.pairwise_cons] at hx hy
      have e : x = y := by
        rcases List.mem_cons.1 ((h x).1 (List.mem_cons_self ..)) with e | hin
        · exact e
        · rcases List.mem_cons.1 ((h y).2 (List.mem_cons_self ..)) with e | hin2
          · exact e.symm
          · have := hy.1 x hin; have := hx.1 y hin2; omega
      subst e
      rw [ih hx.2 hy.2 (fun z => ?_)]
      constructor
      · intro hz
        rcases List.mem_cons.1 ((h z).1 (List.mem_cons_of_mem _ hz)) with e | hin
        · have := hx.1 z hz; omega
        · exact hin
      · intro hz
        rcases List.mem_cons.1 ((h z).2 (List.mem_cons_of_mem _ hz)) with e | hin
        · have := hy.1 z hz; omega
        · exact hin
theorem putL_mem (n : Int) (xs : List Int) (x : Int) : x ∈ putL n xs ↔ x = n ∨ x ∈ xs := by
  have h := congrArg (fun l => x ∈ l) (List.takeWhile_append_dropWhile (p := fun x => decide (x < n)) (l := xs))
  simp only [List.mem_append] at h
  rw [putL, List.mem_append, List.mem_cons, ← h]
  constructor
  · rintro (a | a | a)
    · exact .inr (.inl a)
    · exact .inl a
    · exact .inr (.inr a)
  · rintro (a | a | a)
    · exact .inr (.inl a)
    · exact .inl a
    · exact .inr (.inr a)
theorem putL_rising {n : Int} : ∀ {xs : List Int}, xs.Pairwise (· < ·) → n ∉ xs → (putL n xs).Pairwise (· < ·) := by
  intro xs
  induction xs with
  | nil => intro _ _; simp [putL]
  | cons x xs ih =>
    intro h hn
    rw [List.pairwise_cons] at h
    by_cases c : x < n
    · have e : putL n (x :: xs) = x :: putL n xs := by simp [putL, c]
      rw [e, List.pairwise_cons]
      refine ⟨fun y hy => ?_, ih h.2 (fun hin => hn (List.mem_cons_of_mem _ hin))⟩
      rcases (putL_mem _ _ _).1 hy with rfl | hy
      · exact c
      · exact h.1 y hy
    · have e : putL n (x :: xs) = n :: x :: xs := by simp [putL, c]
      have hxn : n < x := by
        have : n ≠ x := fun e => hn (e ▸ List.mem_cons_self ..)
        omega
      rw [e, List.pairwise_cons, List.pairwise_cons]
      exact ⟨fun y hy => by
        rcases List.mem_cons.1 hy with rfl | hy
        · exact hxn
        · have := h.1 y hy; omega, h⟩
/-- The row and the lists say the same. -/
structure Tie (first : Int) (st U G : List Int) : Prop where
  ok : Ok3 st
  ru : U.Pairwise (· < ·)
  u : ∀ x, x ∈ U ↔ stAt first st x = 1
  g : ∀ x, x ∈ G ↔ stAt first st x = 2
  ng : G.Nodup
  cg : G.length = st.count 2
theorem Tie.used {first : Int} {st U G : List Int} (h : Tie first st U G) : U = usedL first st :=
  rising_eq h.ru (usedL_sorted st first) (fun x => (h.u x).trans (usedL_stAt first st x).symm)
theorem Tie.free {first : Int} {st U G : List Int} (h : Tie first st U G) (n : Int) : freeP first (first + st.length) U G n ↔ stAt first st n = 0 := by
  rw [freeP, h.u, h.g, stAt_in (v := 0) (by omega)]
  constructor
  · rintro ⟨h1, h2, h3, h4⟩
    refine ⟨h1, by omega, ?_⟩
    rw [stAt_in (by omega)] at h3 h4
    have := h.ok.get (j := (n - first).toNat) (by omega)
    rcases this with e | e | e
    · exact e
    · exact absurd ⟨h1, by omega, e⟩ h3
    · exact absurd ⟨h1, by omega, e⟩ h4
  · rintro ⟨h1, h2, h3⟩
    refine ⟨h1, by omega, fun e => ?_, fun e => ?_⟩
    · have := ((stAt_in (by omega)).1 e).2.2; omega
    · have := ((stAt_in (by omega)).1 e).2.2; omega
theorem Tie.take {first : Int} {st U G : List Int} {x : Int} (h : Tie first st U G) (hx : stAt first st x = 0) : Tie first (st.set (x - first).toNat 1) (putL x U) G := by
  obtain ⟨h1, h2, h3⟩ := (stAt_in (by omega)).1 hx
  refine ⟨h.ok.set _ (by simp), putL_rising h.ru (fun hin => by have := (h.u x).1 hin; omega), fun y => ?_, fun y => ?_, h.ng, ?_⟩
  · rw [putL_mem, stAt_set h1 h2, h.u]
    by_cases e : y = x
    · simp [e]
    · simp [e]
  · rw [stAt_set h1 h2, h.g]
    by_cases e : y = x
    · subst e; rw [hx]; simp
    · simp [e]
  · have := count_set' (show (x - first).toNat < st.length by omega) 1 2
    rw [h3] at this
    simp at this
    rw [h.cg]; omega
theorem Tie.give {first : Int} {st U G : List Int} {x : Int} (h : Tie first st U G) (hx : stAt first st x = 1) : Tie first (st.set (x - first).toNat 2) (U.filter (· ≠ x)) (G ++ [x]) := by
  obtain ⟨h1, h2, h3⟩ := (stAt_in (by omega)).1 hx
  have hxg : ¬ x ∈ G := fun hin => by have := (h.g x).1 hin; omega
  refine ⟨h.ok.set _ (by simp), h.ru.filter _, fun y => ?_, fun y => ?_, ?_, ?_⟩
  · rw [stAt_set h1 h2, List.mem_filter, h.u]
    by_cases e : y = x
    · simp [e]
    · simp [e]
  · rw [stAt_set h1 h2, List.mem_append, List.mem_singleton, h.g]
    by_cases e : y = x
    · simp [e]
    · simp [e]
  · rw [List.nodup_append]
    exact ⟨h.ng, by simp, fun a ha b hb e => by rw [List.mem_singleton] at hb; subst hb; subst e; exact hxg ha⟩
  · have := count_set' (show (x - first).toNat < st.length by omega) 2 2
    rw [h3] at this
    simp at this
    rw [List.length_append, h.cg]; simp; omega
theorem Tie.back {first : Int} {st U G : List Int} {x : Int} (h : Tie first st U G) (hx : stAt first st x = 1) : Tie first (st.set (x - first).toNat 0) (U.filter (· ≠ x)) G := by
  obtain ⟨h1, h2, h3⟩ := (stAt_in (by omega)).1 hx
  refine ⟨h.ok.set _ (by simp), h.ru.filter _, fun y => ?_, fun y => ?_, h.ng, ?_⟩
  · rw [stAt_set h1 h2, List.mem_filter, h.u]
    by_cases e : y = x
    · simp [e]
    · simp [e]
  · rw [stAt_set h1 h2, h.g]
    by_cases e : y = x
    · subst e; rw [hx]; simp
    · simp [e]
  · have := count_set' (show (x - first).toNat < st.length by omega) 0 2
    rw [h3] at this
    simp at this
    rw [h.cg]; omega
theorem nodup_of {xs : List Int} (h : ¬ twiceP xs) : xs.Nodup := by
  rw [List.Nodup, List.pairwise_iff_getElem]
  intro i j hi hj hij e
  refine h ⟨j, hj, ?_⟩
  rw [getD_lt hj, ← e]
  rw [List.mem_take_iff_getElem]
  exact ⟨i, by omega, rfl⟩
theorem okAll_iff {first fm : Int} {st xs : List Int} (hf : fm ≠ -1) : okAll first st fm xs ↔ (∀ i, i < xs.length → stAt first st (xs.getD i 0) = fm) ∧ ¬ twiceP xs := by
  constructor
  · intro h
    refine ⟨fun i hi => (stAt_in hf).2 ⟨(h i hi).1, (h i hi).2.1, (h i hi).2.2.1⟩, ?_⟩
    rintro ⟨i, hi, hin⟩
    exact (h i hi).2.2.2 hin
  · rintro ⟨h1, h2⟩ i hi
    obtain ⟨a, b, c⟩ := (stAt_in hf).1 (h1 i hi)
    exact ⟨a, b, c, fun hin => h2 ⟨i, hi, hin⟩⟩
theorem Tie.useOk {first : Int} {st U G xs : List Int} (h : Tie first st U G) : useOk first (first + st.length) U G xs ↔ okAll first st 0 xs := by
  rw [okAll_iff (by omega)]
  unfold Proofs.Ytogfkmejgjodaaa.useOk
  simp only [h.free]
theorem Tie.giveOk {first : Int} {st U G xs : List Int} (h : Tie first st U G) : giveOk U xs ↔ okAll first st 1 xs := by
  rw [okAll_iff (by omega)]
  unfold Proofs.Ytogfkmejgjodaaa.giveOk
  simp only [h.u]
theorem all_of_ok {first fm : Int} {st xs : List Int} (hf : fm ≠ -1) (h : okAll first st fm xs) : (∀ x ∈ xs, stAt first st x = fm) ∧ xs.Nodup := by
  obtain ⟨h1, h2⟩ := (okAll_iff hf).1 h
  refine ⟨fun x hx => ?_, nodup_of h2⟩
  obtain ⟨i, hi, rfl⟩ := List.getElem_of_mem hx
  rw [← getD_lt hi]; exact h1 i hi
theorem Tie.useAll {first : Int} {G : List Int} : ∀ {xs st U : List Int}, Tie first st U G → (∀ x ∈ xs, stAt first st x = 0) → xs.Nodup → Tie first (setAll first 1 st xs) (putAll U xs) G := by
  intro xs
  induction xs with
  | nil => intro st U h _ _; exact h
  | cons x xs ih =>
    intro st U h hx hn
    rw [List.nodup_cons] at hn
    have h0 := hx x (List.mem_cons_self ..)
    obtain ⟨h1, h2, _⟩ := (stAt_in (by omega)).1 h0
    exact ih (h.take h0) (fun y hy => by
      have ne : y ≠ x := fun e => hn.1 (e ▸ hy)
      rw [stAt_set h1 h2, if_neg ne]
      exact hx y (List.mem_cons_of_mem _ hy)) hn.2
theorem Tie.giveAll {first : Int} : ∀ {xs st U G : List Int}, Tie first st U G → (∀ x ∈ xs, stAt first st x = 1) → xs.Nodup → Tie first (setAll first 2 st xs) (outAll U xs) (G ++ xs) := by
  intro xs
  induction xs with
  | nil => intro st U G h _ _; rw [List.append_nil]; exact h
  | cons x xs ih =>
    intro st U G h hx hn
    rw [List.nodup_cons] at hn
    have h0 := hx x (List.mem_cons_self ..)
    obtain ⟨h1, h2, _⟩ := (stAt_in (by omega)).1 h0
    have := ih (h.give h0) (fun y hy => by
      have ne : y ≠ x := fun e => hn.1 (e ▸ hy)
      rw [stAt_set h1 h2, if_neg ne]
      exact hx y (List.mem_cons_of_mem _ hy)) hn.2
    rw [List.append_assoc] at this
    exact this
theorem Tie.backAll {first : Int} {G : List Int} : ∀ {xs st U : List Int}, Tie first st U G → (∀ x ∈ xs, stAt first st x = 1) → xs.Nodup → Tie first (setAll first 0 st xs) (outAll U xs) G := by
  intro xs
  induction xs with
  | nil => intro st U h _ _; exact h
  | cons x xs ih =>
    intro st U h hx hn
    rw [List.nodup_cons] at hn
    have h0 := hx x (List.mem_cons_self ..)
    obtain ⟨h1, h2, _⟩ := (stAt_in (by omega)).1 h0
    exact ih (h.back h0) (fun y hy => by
      have ne : y ≠ x := fun e => hn.1 (e ▸ hy)
      rw [stAt_set h1 h2, if_neg ne]
      exact hx y (List.mem_cons_of_mem _ hy)) hn.2
theorem stAt_all {first fm to x : Int} {st : List Int} (hf : fm ≠ -1) : stAt first (allOf fm to st) x = if stAt first st x = fm then to else stAt first st x := by
  unfold stAt
  rw [allOf_length]
  by_cases c : first ≤ x ∧ x - first < st.length
  · rw [if_pos c, if_pos c]
    have hl : (x - first).toNat < st.length := by omega
    rw [getD_lt (by rw [allOf_length]; exact hl), getD_lt hl]
    simp [allOf]
  · rw [if_neg c, if_neg c, if_neg (fun e => hf e.symm)]
theorem Tie.settle {first : Int} {st U G : List Int} (h : Tie first st U G) : Tie first (allOf 2 0 st) U [] := by
  obtain ⟨o, _, _, c2⟩ := allOf_counts st h.ok
  refine ⟨o, h.ru, fun x => ?_, fun x => ?_, List.nodup_nil, by rw [c2]; rfl⟩
  · rw [stAt_all (by omega), h.u]; split <;> omega
  · rw [stAt_all (by omega)]; split <;> simp <;> omega
theorem Tie.outs {first : Int} {G : List Int} : ∀ {xs st U : List Int}, Tie first st U G → Tie first (Proofs.Ytogfkmejgjodaaa.backAll first xs st) (outAll U xs) G := by
  intro xs
  induction xs with
  | nil => intro st U h; exact h
  | cons x xs ih =>
    intro st U h
    refine ih ?_
    show Tie first (trn first 1 0 [x] st).1 (U.filter (· ≠ x)) G
    rw [trn1]
    by_cases c : first ≤ x ∧ x - first < st.length ∧ st.getD (x - first).toNat 0 = 1
    · rw [if_pos c]
      exact h.back ((stAt_in (by omega)).2 c)
    · rw [if_neg c]
      have hn : ¬ x ∈ U := fun hin => c ((stAt_in (by omega)).1 ((h.u x).1 hin))
      have e : U.filter (· ≠ x) = U := List.filter_eq_self.2 (fun y hy => by
        have ne : y ≠ x := fun e => hn (by rw [← e]; exact hy)
        simpa using ne)
      simp only
      rw [e]; exact h
theorem putAll_mem (xs : List Int) : ∀ (U : List Int) (x : Int), x ∈ putAll U xs ↔ x ∈ xs ∨ x ∈ U := by
  induction xs with
  | nil => intro U x; simp [putAll]
  | cons y ys ih =>
    intro U x
    rw [putAll, List.foldl_cons]
    refine (ih _ x).trans ?_
    rw [putL_mem, List.mem_cons]
    constructor
    · rintro (h | h | h)
      · exact .inl (.inr h)
      · exact .inl (.inl h)
      · exact .inr h
    · rintro ((h | h) | h)
      · exact .inr (.inl h)
      · exact .inl h
      · exact .inr (.inr h)
theorem putAll_rising : ∀ {xs U : List Int}, U.Pairwise (· < ·) → xs.Nodup → (∀ x ∈ xs, ¬ x ∈ U) → (putAll U xs).Pairwise (· < ·) := by
  intro xs
  induction xs with
  | nil => intro U h _ _; exact h
  | cons y ys ih =>
    intro U h hn hd
    rw [List.nodup_cons] at hn
    exact ih (putL_rising h (hd y (List.mem_cons_self ..))) hn.2 (fun x hx hin => by
      rcases (putL_mem _ _ _).1 hin with rfl | hin
      · exact hn.1 hx
      · exact hd x (List.mem_cons_of_mem _ hx) hin)
theorem Tie.undo {first : Int} {st U G : List Int} (h : Tie first st U G) (xs : List Int) : Tie first (allOf 2 1 (Proofs.Ytogfkmejgjodaaa.backAll first xs st)) (undoL U G xs) [] := by
  have h2 := h.outs (xs := xs)
  have hok : Ok3 (allOf 2 1 (Proofs.Ytogfkmejgjodaaa.backAll first xs st)) := fun x hx => by
    obtain ⟨y, hy, rfl⟩ := List.mem_map.1 hx
    rcases h2.ok y hy with e | e | e <;> simp [e]
  refine ⟨hok, putAll_rising h2.ru h2.ng (fun x hx hin => by have := (h2.g x).1 hx; have := (h2.u x).1 hin; omega), fun x => ?_, fun x => ?_, List.nodup_nil, ?_⟩
  · rw [stAt_all (by omega), undoL, putAll_mem, h2.u, h2.g]; split <;> omega
  · rw [stAt_all (by omega)]; split <;> simp <;> omega
  · symm
    rw [List.length_nil, List.count_eq_zero]
    intro hin
    obtain ⟨y, hy, e⟩ := List.mem_map.1 hin
    rcases h2.ok y hy with e2 | e2 | e2 <;> simp [e2] at e
theorem Tie.count {first : Int} {st U G : List Int} (h : Tie first st U G) : (st.count 0 : Int) = first + st.length - first - U.length - G.length := by
  have h1 := h.ok.total
  have h2 := usedL_length st first
  have h3 := h.cg
  rw [← h.used] at h2
  omega
theorem Tie.start (first : Int) (n : Nat) : Tie first (List.replicate n 0) [] [] := by
  refine ⟨fun x hx => by simp at hx; simp [hx], List.Pairwise.nil, fun x => ?_, fun x => ?_, List.nodup_nil, by simp [List.count_replicate]⟩
  · constructor
    · intro h; cases h
    · intro h
      obtain ⟨h1, h2, h3⟩ := (stAt_in (by omega)).1 h
      rw [getD_lt (by simp at h2 ⊢; omega)] at h3
      simp at h3
  · constructor
    · intro h; cases h
    · intro h
      obtain ⟨h1, h2, h3⟩ := (stAt_in (by omega)).1 h
      rw [getD_lt (by simp at h2 ⊢; omega)] at h3
      simp at h3
end Go.Proofs.Ytogfkmejgjodaaa
