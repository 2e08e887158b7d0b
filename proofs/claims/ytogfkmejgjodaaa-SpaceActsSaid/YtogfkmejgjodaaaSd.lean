/- The laws of the layer 'space': what they have in common. -/
import Derived.Test.YtogfkmejgjodaaaSc
import Derived.Test.YtogfkmejgjodaaaKi
set_option linter.unusedVariables false
namespace Go.Proofs.Ytogfkmejgjodaaa
open Go Go.Kx
theorem trn1 (first fm to x : Int) (st : List Int) : trn first fm to [x] st = if first ≤ x ∧ x - first < st.length ∧ st.getD (x - first).toNat 0 = fm then (st.set (x - first).toNat to, 0) else (st, 2) := by
  have h : okAll first st fm [x] ↔ (first ≤ x ∧ x - first < st.length ∧ st.getD (x - first).toNat 0 = fm) := by
    constructor
    · intro h
      obtain ⟨h1, h2, h3, _⟩ := h 0 (by simp)
      exact ⟨h1, h2, h3⟩
    · rintro ⟨h1, h2, h3⟩ i hi
      have : i = 0 := by simpa using hi
      subst this
      exact ⟨h1, h2, h3, by simp⟩
  unfold trn
  by_cases hc : okAll first st fm [x]
  · rw [if_pos hc, if_pos (h.1 hc)]; rfl
  · rw [if_neg hc, if_neg (fun h' => hc (h.2 h'))]
theorem take_e {p q : Nat} {first : Int} {st st' : List Int} {w : World} {a c : Int} (ht : tk first st = (a, c, st')) (h : SpaceAt w p q first st) :
    Calls Try.prog 17 #[.pointer (some ⟨p, 0, none⟩)] w fun e w' => e = .returned (.tuple #[.int .i64 a, .int .i64 c]) ∧ SpaceAt w' p q first st' ∧ Kp (fun j => j = q) w w' := by
  have h1 := take_u p q first st w h
  rw [ht] at h1
  exact h1
theorem give_e {p q : Nat} {first : Int} {st st' : List Int} {w : World} {x c : Int} {b : Nat} {fz : Nat × Nat} {E : TypeId} (ht : trn first 1 2 [x] st = (st', c)) (hb : Blk w b E fz (ints .i64 [x])) (hbq : b ≠ q)
    (h1 : -9223372036854775808 ≤ x) (h2 : x ≤ 9223372036854775807) (h : SpaceAt w p q first st) :
    Calls Try.prog 18 #[.pointer (some ⟨p, 0, none⟩), .slice (some ⟨b, 0, none⟩) 1 1] w fun e w' => e = .returned (.int .i64 c) ∧ SpaceAt w' p q first st' ∧ Kp (fun j => j = q) w w' := by
  have h3 := give_u p q first st (some ⟨b, 0, none⟩) 1 1 [x] w h ((hb.sl (m := 1) rfl (by omega)).e (by
    intro j hj e
    simp [blkOf] at hj
    exact hbq (by omega))) (by
    intro y hy
    have hm : IntKind.i64.min = -9223372036854775808 := rfl
    have hM : IntKind.i64.max = 9223372036854775807 := rfl
    rw [List.mem_singleton.1 hy]
    simp only [Lit.wf, hm, hM, Bool.and_eq_true, decide_eq_true_eq]
    omega)
  rw [ht] at h3
  exact h3
theorem back_e {p q : Nat} {first : Int} {st st' : List Int} {w : World} {x c : Int} {b : Nat} {fz : Nat × Nat} {E : TypeId} (ht : trn first 1 0 [x] st = (st', c)) (hb : Blk w b E fz (ints .i64 [x])) (hbq : b ≠ q)
    (h1 : -9223372036854775808 ≤ x) (h2 : x ≤ 9223372036854775807) (h : SpaceAt w p q first st) :
    Calls Try.prog 22 #[.pointer (some ⟨p, 0, none⟩), .slice (some ⟨b, 0, none⟩) 1 1] w fun e w' => e = .returned (.int .i64 c) ∧ SpaceAt w' p q first st' ∧ Kp (fun j => j = q) w w' := by
  have h3 := back_u p q first st (some ⟨b, 0, none⟩) 1 1 [x] w h ((hb.sl (m := 1) rfl (by omega)).e (by
    intro j hj e
    simp [blkOf] at hj
    exact hbq (by omega))) (by
    intro y hy
    have hm : IntKind.i64.min = -9223372036854775808 := rfl
    have hM : IntKind.i64.max = 9223372036854775807 := rfl
    rw [List.mem_singleton.1 hy]
    simp only [Lit.wf, hm, hM, Bool.and_eq_true, decide_eq_true_eq]
    omega)
  rw [ht] at h3
  exact h3
theorem use_e {p q : Nat} {first : Int} {st st' : List Int} {w : World} {x c : Int} {b : Nat} {fz : Nat × Nat} {E : TypeId} (ht : trn first 0 1 [x] st = (st', c)) (hb : Blk w b E fz (ints .i64 [x])) (hbq : b ≠ q)
    (h1 : -9223372036854775808 ≤ x) (h2 : x ≤ 9223372036854775807) (h : SpaceAt w p q first st) :
    Calls Try.prog 23 #[.pointer (some ⟨p, 0, none⟩), .slice (some ⟨b, 0, none⟩) 1 1] w fun e w' => e = .returned (.int .i64 c) ∧ SpaceAt w' p q first st' ∧ Kp (fun j => j = q) w w' := by
  have h3 := use_u p q first st (some ⟨b, 0, none⟩) 1 1 [x] w h ((hb.sl (m := 1) rfl (by omega)).e (by
    intro j hj e
    simp [blkOf] at hj
    exact hbq (by omega))) (by
    intro y hy
    have hm : IntKind.i64.min = -9223372036854775808 := rfl
    have hM : IntKind.i64.max = 9223372036854775807 := rfl
    rw [List.mem_singleton.1 hy]
    simp only [Lit.wf, hm, hM, Bool.and_eq_true, decide_eq_true_eq]
    omega)
  rw [ht] at h3
  exact h3
theorem turn_e {p q : Nat} {first : Int} {st st' : List Int} {w : World} {x c : Int} {b : Nat} {fz : Nat × Nat} {E : TypeId} (ht : trn first 1 0 [x] st = (st', c)) (hb : Blk w b E fz (ints .i64 [x])) (hbq : b ≠ q)
    (h1 : -9223372036854775808 ≤ x) (h2 : x ≤ 9223372036854775807) (h : SpaceAt w p q first st) :
    Calls Try.prog 35 #[.pointer (some ⟨p, 0, none⟩), .slice (some ⟨b, 0, none⟩) 1 1, .int .i64 1, .int .i64 0] w fun e w' => e = .returned (.int .i64 c) ∧ SpaceAt w' p q first st' ∧ Kp (fun j => j = q) w w' := by
  have h3 := turn_u p q first st 1 0 (some ⟨b, 0, none⟩) 1 1 [x] w h ((hb.sl (m := 1) rfl (by omega)).e (by
    intro j hj e
    simp [blkOf] at hj
    exact hbq (by omega))) (by
    intro y hy
    have hm : IntKind.i64.min = -9223372036854775808 := rfl
    have hM : IntKind.i64.max = 9223372036854775807 := rfl
    rw [List.mem_singleton.1 hy]
    simp only [Lit.wf, hm, hM, Bool.and_eq_true, decide_eq_true_eq]
    omega)
  rw [ht] at h3
  exact h3
/-- What a row may hold. -/
def Ok3 (st : List Int) : Prop := ∀ x ∈ st, x = 0 ∨ x = 1 ∨ x = 2
theorem Ok3.get {st : List Int} (h : Ok3 st) {j : Nat} (hj : j < st.length) : st.getD j 0 = 0 ∨ st.getD j 0 = 1 ∨ st.getD j 0 = 2 := by
  rw [getD_lt hj]; exact h _ (List.getElem_mem hj)
theorem Ok3.set {st : List Int} (h : Ok3 st) (j : Nat) {v : Int} (hv : v = 0 ∨ v = 1 ∨ v = 2) : Ok3 (st.set j v) := fun x hx => by
  rcases List.mem_or_eq_of_mem_set hx with h1 | rfl
  · exact h x h1
  · exact hv
theorem Ok3.total {st : List Int} (h : Ok3 st) : st.count 0 + st.count 1 + st.count 2 = st.length := by
  induction st with
  | nil => rfl
  | cons x xs ih =>
    have := ih fun y hy => h y (List.mem_cons_of_mem _ hy)
    simp only [List.count_cons, List.length_cons]
    rcases h x (List.mem_cons_self ..) with rfl | rfl | rfl <;> simp <;> omega
theorem count_set' {st : List Int} {j : Nat} (hj : j < st.length) (v a : Int) : (st.set j v).count a + (if st.getD j 0 = a then 1 else 0) = st.count a + if v = a then 1 else 0 := by
  rw [List.count_set hj, getD_lt hj]
  have h : (if st[j] = a then 1 else 0) ≤ st.count a := by
    split
    · rename_i e
      exact List.count_pos_iff.2 (e ▸ List.getElem_mem hj)
    · omega
  simp only [beq_iff_eq]
  omega
theorem allOf_counts (st : List Int) (h : Ok3 st) : Ok3 (allOf 2 0 st) ∧ (allOf 2 0 st).count 0 = st.count 0 + st.count 2 ∧ (allOf 2 0 st).count 1 = st.count 1 ∧ (allOf 2 0 st).count 2 = 0 := by
  induction st with
  | nil => exact ⟨fun x hx => (by cases hx), rfl, rfl, rfl⟩
  | cons x xs ih =>
    obtain ⟨i0, i1, i2, i3⟩ := ih fun y hy => h y (List.mem_cons_of_mem _ hy)
    have e : allOf 2 0 (x :: xs) = (if x = 2 then 0 else x) :: allOf 2 0 xs := rfl
    rw [e]
    rcases h x (List.mem_cons_self ..) with rfl | rfl | rfl
    · refine ⟨fun y hy => ?_, ?_⟩
      · rcases List.mem_cons.1 hy with rfl | hy
        · exact .inl rfl
        · exact i0 y hy
      · simp [i1, i2, i3]; try omega
    · refine ⟨fun y hy => ?_, ?_⟩
      · rcases List.mem_cons.1 hy with rfl | hy
        · exact .inr (.inl rfl)
        · exact i0 y hy
      · simp [i1, i2, i3]; try omega
    · refine ⟨fun y hy => ?_, ?_⟩
      · rcases List.mem_cons.1 hy with rfl | hy
        · exact .inl rfl
        · exact i0 y hy
      · simp [i1, i2, i3]; try omega
/-- One is taken, or none is free. -/
theorem tk_cases (first : Int) (st : List Int) : (st.count 0 = 0 ∧ tk first st = (0, 12, st)) ∨ ∃ j, j < st.length ∧ st.getD j 0 = 0 ∧ (∀ i, i < j → st.getD i 0 ≠ 0) ∧ tk first st = (first + j, 0, st.set j 1) := by
  by_cases h : st.findIdx (· == 0) < st.length
  · right
    refine ⟨_, h, ?_, fun i hi => ?_, by rw [tk, if_pos h]⟩
    · rw [getD_lt h]
      have := @List.findIdx_getElem _ (· == 0) st h
      simpa using this
    · have := List.not_of_lt_findIdx hi
      rw [getD_lt (by omega)]
      simpa using this
  · left
    refine ⟨?_, by rw [tk, if_neg h]⟩
    rw [List.count_eq_zero]
    intro hm
    exact h (List.findIdx_lt_length.2 ⟨0, hm, rfl⟩)
theorem tk_counts (first : Int) (st : List Int) (h : Ok3 st) : (st.count 0 = 0 ∧ tk first st = (0, 12, st)) ∨
    ∃ a st', tk first st = (a, 0, st') ∧ Ok3 st' ∧ st'.length = st.length ∧ st'.count 0 + 1 = st.count 0 ∧ st'.count 1 = st.count 1 + 1 ∧ st'.count 2 = st.count 2 := by
  rcases tk_cases first st with h1 | ⟨j, hj, h0, _, e⟩
  · exact .inl h1
  · refine .inr ⟨_, _, e, h.set j (by simp), by simp, ?_⟩
    have c0 := count_set' hj 1 0
    have c1 := count_set' hj 1 1
    have c2 := count_set' hj 1 2
    simp only [h0] at c0 c1 c2
    simp at c0 c1 c2
    omega
/-- One is turned, or not. -/
theorem trn_counts (first fm to x : Int) (st : List Int) (h : Ok3 st) (ht : to = 0 ∨ to = 1 ∨ to = 2) : trn first fm to [x] st = (st, 2) ∨
    ∃ st', trn first fm to [x] st = (st', 0) ∧ Ok3 st' ∧ st'.length = st.length ∧ ∀ a, st'.count a + (if fm = a then 1 else 0) = st.count a + if to = a then 1 else 0 := by
  rw [trn1]
  by_cases hc : first ≤ x ∧ x - first < st.length ∧ st.getD (x - first).toNat 0 = fm
  · rw [if_pos hc]
    obtain ⟨h1, h2, h3⟩ := hc
    refine .inr ⟨_, rfl, h.set _ ht, by simp, fun a => ?_⟩
    have := count_set' (show (x - first).toNat < st.length by omega) to a
    rwa [h3] at this
  · rw [if_neg hc]; exact .inl rfl

set_option maxRecDepth 100000 in
set_option maxHeartbeats 1000000 in
theorem awake15_calls (w : World) : Calls Try.prog 15 #[] w fun e w' => e = .returned (.bool true) ∧ Kp No w w' := by
  refine calls_at (n := 76) Try.func15 rfl rfl (by simp) ?_
  repeat (first | refine AtR_nil ?_ | refine s_mv ?_ | refine s_as ?_ | refine s_pt ?_ | refine s_pf ?_ | refine s_nt ?_ | refine s_ex ?_ | refine s_nc ?_ | refine s_fa ?_ | refine s_ld ?_ | refine s_ia ?_ | refine s_sl ?_ | refine s_ad ?_ | refine s_sb ?_ | refine s_ln ?_ | refine s_cv ?_ | refine s_lss ?_ | refine s_leq ?_ | refine s_gtr ?_ | refine s_geq ?_ | refine s_eql ?_ | refine s_neq ?_ | refine s_eqlf ?_ | refine s_eqlp ?_ | refine s_eqln ?_ | refine s_neqf ?_ | refine s_neqp ?_ | refine s_neqn ?_ | refine At_seq ?_ | refine At_region ?_ | refine AtR_nil ?_ | refine At_block ?_ | refine At_inBlock ?_ | refine At_skip ?_ | refine At_cond_t rfl ?_ | refine At_cond_f rfl ?_ | refine At_exit rfl ?_ | refine s_no rfl rfl rfl rfl ?_ | refine s_nou rfl rfl rfl ?_ | (refine s_yes rfl rfl rfl rfl ?_; first | refine g_mv ?_ | refine g_as ?_ | refine g_pt ?_ | refine g_pf ?_ | refine g_nt ?_ | refine g_ex ?_ | refine g_nc ?_ | refine g_fa ?_ | refine g_ld ?_ | refine g_ia ?_ | refine g_sl ?_ | refine g_ad ?_ | refine g_sb ?_ | refine g_ln ?_ | refine g_cv ?_ | refine g_lss ?_ | refine g_leq ?_ | refine g_gtr ?_ | refine g_geq ?_ | refine g_eql ?_ | refine g_neq ?_ | refine g_eqlf ?_ | refine g_eqlp ?_ | refine g_eqln ?_ | refine g_neqf ?_ | refine g_neqp ?_ | refine g_neqn ?_))
  refine s_call x_call (new_calls 2 5 _ (by omega) (by omega) (by omega)) ?_
  rintro _ w0 ⟨p, q, rfl, Hs, hp, hq, lp, lq, K0⟩
  refine ⟨_, rfl, ?_⟩
  have Hs : SpaceAt w0 p q 2 [0, 0, 0] := Hs
  have K : Kp (fun j => j = q) w0 w0 := Kp.refl _ _
  repeat (first | refine AtR_nil ?_ | refine s_mv ?_ | refine s_as ?_ | refine s_pt ?_ | refine s_pf ?_ | refine s_nt ?_ | refine s_ex ?_ | refine s_nc ?_ | refine s_fa ?_ | refine s_ld ?_ | refine s_ia ?_ | refine s_sl ?_ | refine s_ad ?_ | refine s_sb ?_ | refine s_ln ?_ | refine s_cv ?_ | refine s_lss ?_ | refine s_leq ?_ | refine s_gtr ?_ | refine s_geq ?_ | refine s_eql ?_ | refine s_neq ?_ | refine s_eqlf ?_ | refine s_eqlp ?_ | refine s_eqln ?_ | refine s_neqf ?_ | refine s_neqp ?_ | refine s_neqn ?_ | refine At_seq ?_ | refine At_region ?_ | refine AtR_nil ?_ | refine At_block ?_ | refine At_inBlock ?_ | refine At_skip ?_ | refine At_cond_t rfl ?_ | refine At_cond_f rfl ?_ | refine At_exit rfl ?_ | refine s_no rfl rfl rfl rfl ?_ | refine s_nou rfl rfl rfl ?_ | (refine s_yes rfl rfl rfl rfl ?_; first | refine g_mv ?_ | refine g_as ?_ | refine g_pt ?_ | refine g_pf ?_ | refine g_nt ?_ | refine g_ex ?_ | refine g_nc ?_ | refine g_fa ?_ | refine g_ld ?_ | refine g_ia ?_ | refine g_sl ?_ | refine g_ad ?_ | refine g_sb ?_ | refine g_ln ?_ | refine g_cv ?_ | refine g_lss ?_ | refine g_leq ?_ | refine g_gtr ?_ | refine g_geq ?_ | refine g_eql ?_ | refine g_neq ?_ | refine g_eqlf ?_ | refine g_eqlp ?_ | refine g_eqln ?_ | refine g_neqf ?_ | refine g_neqp ?_ | refine g_neqn ?_))
  refine s_call x_call (take_e (show tk 2 [0, 0, 0] = (2, 0, [1, 0, 0]) by decide) Hs) ?_
  rintro _ w1 ⟨rfl, H1, k1⟩; refine ⟨_, rfl, ?_⟩; replace K := K.trans k1; clear Hs k1; have Hs := H1; clear H1
  repeat (first | refine AtR_nil ?_ | refine s_mv ?_ | refine s_as ?_ | refine s_pt ?_ | refine s_pf ?_ | refine s_nt ?_ | refine s_ex ?_ | refine s_nc ?_ | refine s_fa ?_ | refine s_ld ?_ | refine s_ia ?_ | refine s_sl ?_ | refine s_ad ?_ | refine s_sb ?_ | refine s_ln ?_ | refine s_cv ?_ | refine s_lss ?_ | refine s_leq ?_ | refine s_gtr ?_ | refine s_geq ?_ | refine s_eql ?_ | refine s_neq ?_ | refine s_eqlf ?_ | refine s_eqlp ?_ | refine s_eqln ?_ | refine s_neqf ?_ | refine s_neqp ?_ | refine s_neqn ?_ | refine At_seq ?_ | refine At_region ?_ | refine AtR_nil ?_ | refine At_block ?_ | refine At_inBlock ?_ | refine At_skip ?_ | refine At_cond_t rfl ?_ | refine At_cond_f rfl ?_ | refine At_exit rfl ?_ | refine s_no rfl rfl rfl rfl ?_ | refine s_nou rfl rfl rfl ?_ | (refine s_yes rfl rfl rfl rfl ?_; first | refine g_mv ?_ | refine g_as ?_ | refine g_pt ?_ | refine g_pf ?_ | refine g_nt ?_ | refine g_ex ?_ | refine g_nc ?_ | refine g_fa ?_ | refine g_ld ?_ | refine g_ia ?_ | refine g_sl ?_ | refine g_ad ?_ | refine g_sb ?_ | refine g_ln ?_ | refine g_cv ?_ | refine g_lss ?_ | refine g_leq ?_ | refine g_gtr ?_ | refine g_geq ?_ | refine g_eql ?_ | refine g_neq ?_ | refine g_eqlf ?_ | refine g_eqlp ?_ | refine g_eqln ?_ | refine g_neqf ?_ | refine g_neqp ?_ | refine g_neqn ?_))
  refine s_call x_call (take_e (show tk 2 [1, 0, 0] = (3, 0, [1, 1, 0]) by decide) Hs) ?_
  rintro _ w2 ⟨rfl, H2, k2⟩; refine ⟨_, rfl, ?_⟩; replace K := K.trans k2; clear Hs k2; have Hs := H2; clear H2
  repeat (first | refine AtR_nil ?_ | refine s_mv ?_ | refine s_as ?_ | refine s_pt ?_ | refine s_pf ?_ | refine s_nt ?_ | refine s_ex ?_ | refine s_nc ?_ | refine s_fa ?_ | refine s_ld ?_ | refine s_ia ?_ | refine s_sl ?_ | refine s_ad ?_ | refine s_sb ?_ | refine s_ln ?_ | refine s_cv ?_ | refine s_lss ?_ | refine s_leq ?_ | refine s_gtr ?_ | refine s_geq ?_ | refine s_eql ?_ | refine s_neq ?_ | refine s_eqlf ?_ | refine s_eqlp ?_ | refine s_eqln ?_ | refine s_neqf ?_ | refine s_neqp ?_ | refine s_neqn ?_ | refine At_seq ?_ | refine At_region ?_ | refine AtR_nil ?_ | refine At_block ?_ | refine At_inBlock ?_ | refine At_skip ?_ | refine At_cond_t rfl ?_ | refine At_cond_f rfl ?_ | refine At_exit rfl ?_ | refine s_no rfl rfl rfl rfl ?_ | refine s_nou rfl rfl rfl ?_ | (refine s_yes rfl rfl rfl rfl ?_; first | refine g_mv ?_ | refine g_as ?_ | refine g_pt ?_ | refine g_pf ?_ | refine g_nt ?_ | refine g_ex ?_ | refine g_nc ?_ | refine g_fa ?_ | refine g_ld ?_ | refine g_ia ?_ | refine g_sl ?_ | refine g_ad ?_ | refine g_sb ?_ | refine g_ln ?_ | refine g_cv ?_ | refine g_lss ?_ | refine g_leq ?_ | refine g_gtr ?_ | refine g_geq ?_ | refine g_eql ?_ | refine g_neq ?_ | refine g_eqlf ?_ | refine g_eqlp ?_ | refine g_eqln ?_ | refine g_neqf ?_ | refine g_neqp ?_ | refine g_neqn ?_))
  refine AtR_go rfl (AtG_buildSlice1 (ops := [_]) rfl rfl (by omega) rfl rfl rfl fun b w3 hb e3 => ?_)
  have Bx : Blk w3 b 3 (0, 0) (ints .i64 [2]) := e3.blk
  have hbq : b ≠ q := by have := Hs.row.lt; omega
  replace Hs := Hs.kpn (e3.kp (.inr (by omega))); replace K := K.trans (e3.kp (.inr (by omega))); clear e3 hb
  repeat (first | refine AtR_nil ?_ | refine s_mv ?_ | refine s_as ?_ | refine s_pt ?_ | refine s_pf ?_ | refine s_nt ?_ | refine s_ex ?_ | refine s_nc ?_ | refine s_fa ?_ | refine s_ld ?_ | refine s_ia ?_ | refine s_sl ?_ | refine s_ad ?_ | refine s_sb ?_ | refine s_ln ?_ | refine s_cv ?_ | refine s_lss ?_ | refine s_leq ?_ | refine s_gtr ?_ | refine s_geq ?_ | refine s_eql ?_ | refine s_neq ?_ | refine s_eqlf ?_ | refine s_eqlp ?_ | refine s_eqln ?_ | refine s_neqf ?_ | refine s_neqp ?_ | refine s_neqn ?_ | refine At_seq ?_ | refine At_region ?_ | refine AtR_nil ?_ | refine At_block ?_ | refine At_inBlock ?_ | refine At_skip ?_ | refine At_cond_t rfl ?_ | refine At_cond_f rfl ?_ | refine At_exit rfl ?_ | refine s_no rfl rfl rfl rfl ?_ | refine s_nou rfl rfl rfl ?_ | (refine s_yes rfl rfl rfl rfl ?_; first | refine g_mv ?_ | refine g_as ?_ | refine g_pt ?_ | refine g_pf ?_ | refine g_nt ?_ | refine g_ex ?_ | refine g_nc ?_ | refine g_fa ?_ | refine g_ld ?_ | refine g_ia ?_ | refine g_sl ?_ | refine g_ad ?_ | refine g_sb ?_ | refine g_ln ?_ | refine g_cv ?_ | refine g_lss ?_ | refine g_leq ?_ | refine g_gtr ?_ | refine g_geq ?_ | refine g_eql ?_ | refine g_neq ?_ | refine g_eqlf ?_ | refine g_eqlp ?_ | refine g_eqln ?_ | refine g_neqf ?_ | refine g_neqp ?_ | refine g_neqn ?_))
  refine s_call x_call (give_e (show trn 2 1 2 [2] [1, 1, 0] = ([2, 1, 0], 0) by rw [trn1]; decide) Bx hbq (by omega) (by omega) Hs) ?_
  rintro _ w4 ⟨rfl, H4, k4⟩; refine ⟨_, rfl, ?_⟩; replace K := K.trans k4; clear Hs k4; have Hs := H4; clear H4
  repeat (first | refine AtR_nil ?_ | refine s_mv ?_ | refine s_as ?_ | refine s_pt ?_ | refine s_pf ?_ | refine s_nt ?_ | refine s_ex ?_ | refine s_nc ?_ | refine s_fa ?_ | refine s_ld ?_ | refine s_ia ?_ | refine s_sl ?_ | refine s_ad ?_ | refine s_sb ?_ | refine s_ln ?_ | refine s_cv ?_ | refine s_lss ?_ | refine s_leq ?_ | refine s_gtr ?_ | refine s_geq ?_ | refine s_eql ?_ | refine s_neq ?_ | refine s_eqlf ?_ | refine s_eqlp ?_ | refine s_eqln ?_ | refine s_neqf ?_ | refine s_neqp ?_ | refine s_neqn ?_ | refine At_seq ?_ | refine At_region ?_ | refine AtR_nil ?_ | refine At_block ?_ | refine At_inBlock ?_ | refine At_skip ?_ | refine At_cond_t rfl ?_ | refine At_cond_f rfl ?_ | refine At_exit rfl ?_ | refine s_no rfl rfl rfl rfl ?_ | refine s_nou rfl rfl rfl ?_ | (refine s_yes rfl rfl rfl rfl ?_; first | refine g_mv ?_ | refine g_as ?_ | refine g_pt ?_ | refine g_pf ?_ | refine g_nt ?_ | refine g_ex ?_ | refine g_nc ?_ | refine g_fa ?_ | refine g_ld ?_ | refine g_ia ?_ | refine g_sl ?_ | refine g_ad ?_ | refine g_sb ?_ | refine g_ln ?_ | refine g_cv ?_ | refine g_lss ?_ | refine g_leq ?_ | refine g_gtr ?_ | refine g_geq ?_ | refine g_eql ?_ | refine g_neq ?_ | refine g_eqlf ?_ | refine g_eqlp ?_ | refine g_eqln ?_ | refine g_neqf ?_ | refine g_neqp ?_ | refine g_neqn ?_))
  refine s_call x_call (take_e (show tk 2 [2, 1, 0] = (4, 0, [2, 1, 1]) by decide) Hs) ?_
  rintro _ w5 ⟨rfl, H5, k5⟩; refine ⟨_, rfl, ?_⟩; replace K := K.trans k5; clear Hs k5; have Hs := H5; clear H5
  repeat (first | refine AtR_nil ?_ | refine s_mv ?_ | refine s_as ?_ | refine s_pt ?_ | refine s_pf ?_ | refine s_nt ?_ | refine s_ex ?_ | refine s_nc ?_ | refine s_fa ?_ | refine s_ld ?_ | refine s_ia ?_ | refine s_sl ?_ | refine s_ad ?_ | refine s_sb ?_ | refine s_ln ?_ | refine s_cv ?_ | refine s_lss ?_ | refine s_leq ?_ | refine s_gtr ?_ | refine s_geq ?_ | refine s_eql ?_ | refine s_neq ?_ | refine s_eqlf ?_ | refine s_eqlp ?_ | refine s_eqln ?_ | refine s_neqf ?_ | refine s_neqp ?_ | refine s_neqn ?_ | refine At_seq ?_ | refine At_region ?_ | refine AtR_nil ?_ | refine At_block ?_ | refine At_inBlock ?_ | refine At_skip ?_ | refine At_cond_t rfl ?_ | refine At_cond_f rfl ?_ | refine At_exit rfl ?_ | refine s_no rfl rfl rfl rfl ?_ | refine s_nou rfl rfl rfl ?_ | (refine s_yes rfl rfl rfl rfl ?_; first | refine g_mv ?_ | refine g_as ?_ | refine g_pt ?_ | refine g_pf ?_ | refine g_nt ?_ | refine g_ex ?_ | refine g_nc ?_ | refine g_fa ?_ | refine g_ld ?_ | refine g_ia ?_ | refine g_sl ?_ | refine g_ad ?_ | refine g_sb ?_ | refine g_ln ?_ | refine g_cv ?_ | refine g_lss ?_ | refine g_leq ?_ | refine g_gtr ?_ | refine g_geq ?_ | refine g_eql ?_ | refine g_neq ?_ | refine g_eqlf ?_ | refine g_eqlp ?_ | refine g_eqln ?_ | refine g_neqf ?_ | refine g_neqp ?_ | refine g_neqn ?_))
  refine s_call x_call (take_e (show tk 2 [2, 1, 1] = (0, 12, [2, 1, 1]) by decide) Hs) ?_
  rintro _ w6 ⟨rfl, H6, k6⟩; refine ⟨_, rfl, ?_⟩; replace K := K.trans k6; clear Hs k6; have Hs := H6; clear H6
  repeat (first | refine AtR_nil ?_ | refine s_mv ?_ | refine s_as ?_ | refine s_pt ?_ | refine s_pf ?_ | refine s_nt ?_ | refine s_ex ?_ | refine s_nc ?_ | refine s_fa ?_ | refine s_ld ?_ | refine s_ia ?_ | refine s_sl ?_ | refine s_ad ?_ | refine s_sb ?_ | refine s_ln ?_ | refine s_cv ?_ | refine s_lss ?_ | refine s_leq ?_ | refine s_gtr ?_ | refine s_geq ?_ | refine s_eql ?_ | refine s_neq ?_ | refine s_eqlf ?_ | refine s_eqlp ?_ | refine s_eqln ?_ | refine s_neqf ?_ | refine s_neqp ?_ | refine s_neqn ?_ | refine At_seq ?_ | refine At_region ?_ | refine AtR_nil ?_ | refine At_block ?_ | refine At_inBlock ?_ | refine At_skip ?_ | refine At_cond_t rfl ?_ | refine At_cond_f rfl ?_ | refine At_exit rfl ?_ | refine s_no rfl rfl rfl rfl ?_ | refine s_nou rfl rfl rfl ?_ | (refine s_yes rfl rfl rfl rfl ?_; first | refine g_mv ?_ | refine g_as ?_ | refine g_pt ?_ | refine g_pf ?_ | refine g_nt ?_ | refine g_ex ?_ | refine g_nc ?_ | refine g_fa ?_ | refine g_ld ?_ | refine g_ia ?_ | refine g_sl ?_ | refine g_ad ?_ | refine g_sb ?_ | refine g_ln ?_ | refine g_cv ?_ | refine g_lss ?_ | refine g_leq ?_ | refine g_gtr ?_ | refine g_geq ?_ | refine g_eql ?_ | refine g_neq ?_ | refine g_eqlf ?_ | refine g_eqlp ?_ | refine g_eqln ?_ | refine g_neqf ?_ | refine g_neqp ?_ | refine g_neqn ?_))
  refine s_call x_call (settle_u _ _ _ _ _ Hs) ?_
  rintro _ w7 ⟨rfl, H7, k7⟩; refine ⟨_, rfl, ?_⟩; replace K := K.trans k7; clear Hs k7; have Hs := H7; clear H7
  repeat (first | refine AtR_nil ?_ | refine s_mv ?_ | refine s_as ?_ | refine s_pt ?_ | refine s_pf ?_ | refine s_nt ?_ | refine s_ex ?_ | refine s_nc ?_ | refine s_fa ?_ | refine s_ld ?_ | refine s_ia ?_ | refine s_sl ?_ | refine s_ad ?_ | refine s_sb ?_ | refine s_ln ?_ | refine s_cv ?_ | refine s_lss ?_ | refine s_leq ?_ | refine s_gtr ?_ | refine s_geq ?_ | refine s_eql ?_ | refine s_neq ?_ | refine s_eqlf ?_ | refine s_eqlp ?_ | refine s_eqln ?_ | refine s_neqf ?_ | refine s_neqp ?_ | refine s_neqn ?_ | refine At_seq ?_ | refine At_region ?_ | refine AtR_nil ?_ | refine At_block ?_ | refine At_inBlock ?_ | refine At_skip ?_ | refine At_cond_t rfl ?_ | refine At_cond_f rfl ?_ | refine At_exit rfl ?_ | refine s_no rfl rfl rfl rfl ?_ | refine s_nou rfl rfl rfl ?_ | (refine s_yes rfl rfl rfl rfl ?_; first | refine g_mv ?_ | refine g_as ?_ | refine g_pt ?_ | refine g_pf ?_ | refine g_nt ?_ | refine g_ex ?_ | refine g_nc ?_ | refine g_fa ?_ | refine g_ld ?_ | refine g_ia ?_ | refine g_sl ?_ | refine g_ad ?_ | refine g_sb ?_ | refine g_ln ?_ | refine g_cv ?_ | refine g_lss ?_ | refine g_leq ?_ | refine g_gtr ?_ | refine g_geq ?_ | refine g_eql ?_ | refine g_neq ?_ | refine g_eqlf ?_ | refine g_eqlp ?_ | refine g_eqln ?_ | refine g_neqf ?_ | refine g_neqp ?_ | refine g_neqn ?_))
  refine s_call x_call (take_e (show tk 2 (allOf 2 0 [2, 1, 1]) = (2, 0, [1, 1, 1]) by decide) Hs) ?_
  rintro _ w8 ⟨rfl, H8, k8⟩; refine ⟨_, rfl, ?_⟩; replace K := K.trans k8; clear Hs k8; have Hs := H8; clear H8
  repeat (first | refine AtR_nil ?_ | refine s_mv ?_ | refine s_as ?_ | refine s_pt ?_ | refine s_pf ?_ | refine s_nt ?_ | refine s_ex ?_ | refine s_nc ?_ | refine s_fa ?_ | refine s_ld ?_ | refine s_ia ?_ | refine s_sl ?_ | refine s_ad ?_ | refine s_sb ?_ | refine s_ln ?_ | refine s_cv ?_ | refine s_lss ?_ | refine s_leq ?_ | refine s_gtr ?_ | refine s_geq ?_ | refine s_eql ?_ | refine s_neq ?_ | refine s_eqlf ?_ | refine s_eqlp ?_ | refine s_eqln ?_ | refine s_neqf ?_ | refine s_neqp ?_ | refine s_neqn ?_ | refine At_seq ?_ | refine At_region ?_ | refine AtR_nil ?_ | refine At_block ?_ | refine At_inBlock ?_ | refine At_skip ?_ | refine At_cond_t rfl ?_ | refine At_cond_f rfl ?_ | refine At_exit rfl ?_ | refine s_no rfl rfl rfl rfl ?_ | refine s_nou rfl rfl rfl ?_ | (refine s_yes rfl rfl rfl rfl ?_; first | refine g_mv ?_ | refine g_as ?_ | refine g_pt ?_ | refine g_pf ?_ | refine g_nt ?_ | refine g_ex ?_ | refine g_nc ?_ | refine g_fa ?_ | refine g_ld ?_ | refine g_ia ?_ | refine g_sl ?_ | refine g_ad ?_ | refine g_sb ?_ | refine g_ln ?_ | refine g_cv ?_ | refine g_lss ?_ | refine g_leq ?_ | refine g_gtr ?_ | refine g_geq ?_ | refine g_eql ?_ | refine g_neq ?_ | refine g_eqlf ?_ | refine g_eqlp ?_ | refine g_eqln ?_ | refine g_neqf ?_ | refine g_neqp ?_ | refine g_neqn ?_))
  refine At_ret1 Try.func15 rfl (by conv => lhs; whnf) ?_
  exact ⟨rfl, K0.trans' K (by rintro j rfl; right; omega)⟩
end Go.Proofs.Ytogfkmejgjodaaa
