/- What is left of the layer 'space', each call said in one form. -/
import Derived.Test.YtogfkmejgjodaaaSb
set_option linter.unusedVariables false
namespace Go.Proofs.Ytogfkmejgjodaaa
open Go Go.Kx
open Classical in
/-- What turning answers. -/
noncomputable def trn (first fm to : Int) (xs st : List Int) : List Int × Int := if okAll first st fm xs then (setAll first to st xs, 0) else (st, 2)
theorem trn_length (first fm to : Int) (xs st : List Int) : (trn first fm to xs st).1.length = st.length := by
  unfold trn; split
  · exact setAll_length ..
  · rfl
/-- What taking answers: the sector, the answer, the new row. -/
def tk (first : Int) (st : List Int) : Int × Int × List Int := if st.findIdx (· == 0) < st.length then (first + st.findIdx (· == 0), 0, st.set (st.findIdx (· == 0)) 1) else (0, 12, st)
theorem tk_length (first : Int) (st : List Int) : (tk first st).2.2.length = st.length := by
  unfold tk; split <;> simp
theorem take_u (p q : Nat) (first : Int) (st : List Int) (w : World) (h : SpaceAt w p q first st) :
    Calls Try.prog 17 #[.pointer (some ⟨p, 0, none⟩)] w fun e w' => e = .returned (.tuple #[.int .i64 (tk first st).1, .int .i64 (tk first st).2.1]) ∧ SpaceAt w' p q first (tk first st).2.2 ∧ Kp (fun j => j = q) w w' := by
  refine (take_calls p q first st w h).mono ?_
  rintro e w' (⟨rfl, rfl, hno⟩ | ⟨k, rfl, hk, hz, hbe, hs, hkp⟩)
  · have : ¬ st.findIdx (· == 0) < st.length := by
      rw [List.findIdx_lt_length]
      rintro ⟨x, hx, h0⟩
      obtain ⟨j, hj, e⟩ := List.getElem_of_mem hx
      exact hno j hj (by rw [getD_lt hj, e]; simpa using (eq_comm.1 (by simpa using h0)))
    rw [tk, if_neg this]
    exact ⟨rfl, h, Kp.refl _ _⟩
  · have : st.findIdx (· == 0) = k := by
      rw [List.findIdx_eq hk]
      refine ⟨by rw [getD_lt hk] at hz; simp [hz], fun j hj => ?_⟩
      have := hbe j hj
      rw [getD_lt (by omega)] at this
      simpa using fun e => this e.symm
    rw [tk, this, if_pos hk]
    exact ⟨rfl, hs, hkp⟩
theorem turn_u (p q : Nat) (first : Int) (st : List Int) (fm to : Int) (a : Option Addr) (len cap : Nat) (xs : List Int) (w : World) (h : SpaceAt w p q first st) (hs : SlE w .i64 a len cap xs (fun b => b ≠ q))
    (hb : ∀ x ∈ xs, (Lit.int .i64 x).wf = true) :
    Calls Try.prog 35 #[.pointer (some ⟨p, 0, none⟩), .slice a len cap, .int .i64 fm, .int .i64 to] w
      fun e w' => e = .returned (.int .i64 (trn first fm to xs st).2) ∧ SpaceAt w' p q first (trn first fm to xs st).1 ∧ Kp (fun j => j = q) w w' := by
  refine (turn_calls p q first st fm to a len cap xs w h hs hb).mono ?_
  rintro e w' (⟨hno, rfl, rfl⟩ | ⟨hok, rfl, h2, hk⟩)
  · rw [trn, if_neg hno]; exact ⟨rfl, h, Kp.refl _ _⟩
  · rw [trn, if_pos hok]; exact ⟨rfl, h2, hk⟩
set_option maxRecDepth 100000 in
theorem give_u (p q : Nat) (first : Int) (st : List Int) (a : Option Addr) (len cap : Nat) (xs : List Int) (w : World) (h : SpaceAt w p q first st) (hs : SlE w .i64 a len cap xs (fun b => b ≠ q))
    (hb : ∀ x ∈ xs, (Lit.int .i64 x).wf = true) :
    Calls Try.prog 18 #[.pointer (some ⟨p, 0, none⟩), .slice a len cap] w
      fun e w' => e = .returned (.int .i64 (trn first 1 2 xs st).2) ∧ SpaceAt w' p q first (trn first 1 2 xs st).1 ∧ Kp (fun j => j = q) w w' := by
  refine calls_at (n := 8) Try.func18 rfl rfl (by simp) ?_
  repeat (first | refine AtR_nil ?_ | refine s_mv ?_ | refine s_as ?_ | refine s_pt ?_ | refine s_pf ?_ | refine s_nt ?_ | refine s_ex ?_ | refine s_nc ?_ | refine s_fa ?_ | refine s_ld ?_ | refine s_ia ?_ | refine s_sl ?_ | refine s_ad ?_ | refine s_sb ?_ | refine s_ln ?_ | refine s_cv ?_ | refine s_lss ?_ | refine s_leq ?_ | refine s_gtr ?_ | refine s_geq ?_ | refine s_eql ?_ | refine s_neq ?_ | refine s_eqlf ?_ | refine s_eqlp ?_ | refine s_eqln ?_ | refine s_neqf ?_ | refine s_neqp ?_ | refine s_neqn ?_ | refine At_seq ?_ | refine At_region ?_ | refine AtR_nil ?_ | refine At_block ?_ | refine At_inBlock ?_ | refine At_skip ?_ | refine At_cond_t rfl ?_ | refine At_cond_f rfl ?_ | refine At_exit rfl ?_ | refine s_no rfl rfl rfl rfl ?_ | refine s_nou rfl rfl rfl ?_ | (refine s_yes rfl rfl rfl rfl ?_; first | refine g_mv ?_ | refine g_as ?_ | refine g_pt ?_ | refine g_pf ?_ | refine g_nt ?_ | refine g_ex ?_ | refine g_nc ?_ | refine g_fa ?_ | refine g_ld ?_ | refine g_ia ?_ | refine g_sl ?_ | refine g_ad ?_ | refine g_sb ?_ | refine g_ln ?_ | refine g_cv ?_ | refine g_lss ?_ | refine g_leq ?_ | refine g_gtr ?_ | refine g_geq ?_ | refine g_eql ?_ | refine g_neq ?_ | refine g_eqlf ?_ | refine g_eqlp ?_ | refine g_eqln ?_ | refine g_neqf ?_ | refine g_neqp ?_ | refine g_neqn ?_))
  refine s_call x_call (turn_u p q first st 1 2 a len cap xs _ h hs hb) ?_
  rintro _ w1 ⟨rfl, h1, k1⟩
  refine ⟨_, rfl, ?_⟩
  repeat (first | refine AtR_nil ?_ | refine s_mv ?_ | refine s_as ?_ | refine s_pt ?_ | refine s_pf ?_ | refine s_nt ?_ | refine s_ex ?_ | refine s_nc ?_ | refine s_fa ?_ | refine s_ld ?_ | refine s_ia ?_ | refine s_sl ?_ | refine s_ad ?_ | refine s_sb ?_ | refine s_ln ?_ | refine s_cv ?_ | refine s_lss ?_ | refine s_leq ?_ | refine s_gtr ?_ | refine s_geq ?_ | refine s_eql ?_ | refine s_neq ?_ | refine s_eqlf ?_ | refine s_eqlp ?_ | refine s_eqln ?_ | refine s_neqf ?_ | refine s_neqp ?_ | refine s_neqn ?_ | refine At_seq ?_ | refine At_region ?_ | refine AtR_nil ?_ | refine At_block ?_ | refine At_inBlock ?_ | refine At_skip ?_ | refine At_cond_t rfl ?_ | refine At_cond_f rfl ?_ | refine At_exit rfl ?_ | refine s_no rfl rfl rfl rfl ?_ | refine s_nou rfl rfl rfl ?_ | (refine s_yes rfl rfl rfl rfl ?_; first | refine g_mv ?_ | refine g_as ?_ | refine g_pt ?_ | refine g_pf ?_ | refine g_nt ?_ | refine g_ex ?_ | refine g_nc ?_ | refine g_fa ?_ | refine g_ld ?_ | refine g_ia ?_ | refine g_sl ?_ | refine g_ad ?_ | refine g_sb ?_ | refine g_ln ?_ | refine g_cv ?_ | refine g_lss ?_ | refine g_leq ?_ | refine g_gtr ?_ | refine g_geq ?_ | refine g_eql ?_ | refine g_neq ?_ | refine g_eqlf ?_ | refine g_eqlp ?_ | refine g_eqln ?_ | refine g_neqf ?_ | refine g_neqp ?_ | refine g_neqn ?_))
  refine At_ret1 Try.func18 rfl (by conv => lhs; whnf) ?_
  exact ⟨rfl, h1, k1⟩
set_option maxRecDepth 100000 in
theorem back_u (p q : Nat) (first : Int) (st : List Int) (a : Option Addr) (len cap : Nat) (xs : List Int) (w : World) (h : SpaceAt w p q first st) (hs : SlE w .i64 a len cap xs (fun b => b ≠ q))
    (hb : ∀ x ∈ xs, (Lit.int .i64 x).wf = true) :
    Calls Try.prog 22 #[.pointer (some ⟨p, 0, none⟩), .slice a len cap] w
      fun e w' => e = .returned (.int .i64 (trn first 1 0 xs st).2) ∧ SpaceAt w' p q first (trn first 1 0 xs st).1 ∧ Kp (fun j => j = q) w w' := by
  refine calls_at (n := 8) Try.func22 rfl rfl (by simp) ?_
  repeat (first | refine AtR_nil ?_ | refine s_mv ?_ | refine s_as ?_ | refine s_pt ?_ | refine s_pf ?_ | refine s_nt ?_ | refine s_ex ?_ | refine s_nc ?_ | refine s_fa ?_ | refine s_ld ?_ | refine s_ia ?_ | refine s_sl ?_ | refine s_ad ?_ | refine s_sb ?_ | refine s_ln ?_ | refine s_cv ?_ | refine s_lss ?_ | refine s_leq ?_ | refine s_gtr ?_ | refine s_geq ?_ | refine s_eql ?_ | refine s_neq ?_ | refine s_eqlf ?_ | refine s_eqlp ?_ | refine s_eqln ?_ | refine s_neqf ?_ | refine s_neqp ?_ | refine s_neqn ?_ | refine At_seq ?_ | refine At_region ?_ | refine AtR_nil ?_ | refine At_block ?_ | refine At_inBlock ?_ | refine At_skip ?_ | refine At_cond_t rfl ?_ | refine At_cond_f rfl ?_ | refine At_exit rfl ?_ | refine s_no rfl rfl rfl rfl ?_ | refine s_nou rfl rfl rfl ?_ | (refine s_yes rfl rfl rfl rfl ?_; first | refine g_mv ?_ | refine g_as ?_ | refine g_pt ?_ | refine g_pf ?_ | refine g_nt ?_ | refine g_ex ?_ | refine g_nc ?_ | refine g_fa ?_ | refine g_ld ?_ | refine g_ia ?_ | refine g_sl ?_ | refine g_ad ?_ | refine g_sb ?_ | refine g_ln ?_ | refine g_cv ?_ | refine g_lss ?_ | refine g_leq ?_ | refine g_gtr ?_ | refine g_geq ?_ | refine g_eql ?_ | refine g_neq ?_ | refine g_eqlf ?_ | refine g_eqlp ?_ | refine g_eqln ?_ | refine g_neqf ?_ | refine g_neqp ?_ | refine g_neqn ?_))
  refine s_call x_call (turn_u p q first st 1 0 a len cap xs _ h hs hb) ?_
  rintro _ w1 ⟨rfl, h1, k1⟩
  refine ⟨_, rfl, ?_⟩
  repeat (first | refine AtR_nil ?_ | refine s_mv ?_ | refine s_as ?_ | refine s_pt ?_ | refine s_pf ?_ | refine s_nt ?_ | refine s_ex ?_ | refine s_nc ?_ | refine s_fa ?_ | refine s_ld ?_ | refine s_ia ?_ | refine s_sl ?_ | refine s_ad ?_ | refine s_sb ?_ | refine s_ln ?_ | refine s_cv ?_ | refine s_lss ?_ | refine s_leq ?_ | refine s_gtr ?_ | refine s_geq ?_ | refine s_eql ?_ | refine s_neq ?_ | refine s_eqlf ?_ | refine s_eqlp ?_ | refine s_eqln ?_ | refine s_neqf ?_ | refine s_neqp ?_ | refine s_neqn ?_ | refine At_seq ?_ | refine At_region ?_ | refine AtR_nil ?_ | refine At_block ?_ | refine At_inBlock ?_ | refine At_skip ?_ | refine At_cond_t rfl ?_ | refine At_cond_f rfl ?_ | refine At_exit rfl ?_ | refine s_no rfl rfl rfl rfl ?_ | refine s_nou rfl rfl rfl ?_ | (refine s_yes rfl rfl rfl rfl ?_; first | refine g_mv ?_ | refine g_as ?_ | refine g_pt ?_ | refine g_pf ?_ | refine g_nt ?_ | refine g_ex ?_ | refine g_nc ?_ | refine g_fa ?_ | refine g_ld ?_ | refine g_ia ?_ | refine g_sl ?_ | refine g_ad ?_ | refine g_sb ?_ | refine g_ln ?_ | refine g_cv ?_ | refine g_lss ?_ | refine g_leq ?_ | refine g_gtr ?_ | refine g_geq ?_ | refine g_eql ?_ | refine g_neq ?_ | refine g_eqlf ?_ | refine g_eqlp ?_ | refine g_eqln ?_ | refine g_neqf ?_ | refine g_neqp ?_ | refine g_neqn ?_))
  refine At_ret1 Try.func22 rfl (by conv => lhs; whnf) ?_
  exact ⟨rfl, h1, k1⟩
set_option maxRecDepth 100000 in
theorem use_u (p q : Nat) (first : Int) (st : List Int) (a : Option Addr) (len cap : Nat) (xs : List Int) (w : World) (h : SpaceAt w p q first st) (hs : SlE w .i64 a len cap xs (fun b => b ≠ q))
    (hb : ∀ x ∈ xs, (Lit.int .i64 x).wf = true) :
    Calls Try.prog 23 #[.pointer (some ⟨p, 0, none⟩), .slice a len cap] w
      fun e w' => e = .returned (.int .i64 (trn first 0 1 xs st).2) ∧ SpaceAt w' p q first (trn first 0 1 xs st).1 ∧ Kp (fun j => j = q) w w' := by
  refine calls_at (n := 8) Try.func23 rfl rfl (by simp) ?_
  repeat (first | refine AtR_nil ?_ | refine s_mv ?_ | refine s_as ?_ | refine s_pt ?_ | refine s_pf ?_ | refine s_nt ?_ | refine s_ex ?_ | refine s_nc ?_ | refine s_fa ?_ | refine s_ld ?_ | refine s_ia ?_ | refine s_sl ?_ | refine s_ad ?_ | refine s_sb ?_ | refine s_ln ?_ | refine s_cv ?_ | refine s_lss ?_ | refine s_leq ?_ | refine s_gtr ?_ | refine s_geq ?_ | refine s_eql ?_ | refine s_neq ?_ | refine s_eqlf ?_ | refine s_eqlp ?_ | refine s_eqln ?_ | refine s_neqf ?_ | refine s_neqp ?_ | refine s_neqn ?_ | refine At_seq ?_ | refine At_region ?_ | refine AtR_nil ?_ | refine At_block ?_ | refine At_inBlock ?_ | refine At_skip ?_ | refine At_cond_t rfl ?_ | refine At_cond_f rfl ?_ | refine At_exit rfl ?_ | refine s_no rfl rfl rfl rfl ?_ | refine s_nou rfl rfl rfl ?_ | (refine s_yes rfl rfl rfl rfl ?_; first | refine g_mv ?_ | refine g_as ?_ | refine g_pt ?_ | refine g_pf ?_ | refine g_nt ?_ | refine g_ex ?_ | refine g_nc ?_ | refine g_fa ?_ | refine g_ld ?_ | refine g_ia ?_ | refine g_sl ?_ | refine g_ad ?_ | refine g_sb ?_ | refine g_ln ?_ | refine g_cv ?_ | refine g_lss ?_ | refine g_leq ?_ | refine g_gtr ?_ | refine g_geq ?_ | refine g_eql ?_ | refine g_neq ?_ | refine g_eqlf ?_ | refine g_eqlp ?_ | refine g_eqln ?_ | refine g_neqf ?_ | refine g_neqp ?_ | refine g_neqn ?_))
  refine s_call x_call (turn_u p q first st 0 1 a len cap xs _ h hs hb) ?_
  rintro _ w1 ⟨rfl, h1, k1⟩
  refine ⟨_, rfl, ?_⟩
  repeat (first | refine AtR_nil ?_ | refine s_mv ?_ | refine s_as ?_ | refine s_pt ?_ | refine s_pf ?_ | refine s_nt ?_ | refine s_ex ?_ | refine s_nc ?_ | refine s_fa ?_ | refine s_ld ?_ | refine s_ia ?_ | refine s_sl ?_ | refine s_ad ?_ | refine s_sb ?_ | refine s_ln ?_ | refine s_cv ?_ | refine s_lss ?_ | refine s_leq ?_ | refine s_gtr ?_ | refine s_geq ?_ | refine s_eql ?_ | refine s_neq ?_ | refine s_eqlf ?_ | refine s_eqlp ?_ | refine s_eqln ?_ | refine s_neqf ?_ | refine s_neqp ?_ | refine s_neqn ?_ | refine At_seq ?_ | refine At_region ?_ | refine AtR_nil ?_ | refine At_block ?_ | refine At_inBlock ?_ | refine At_skip ?_ | refine At_cond_t rfl ?_ | refine At_cond_f rfl ?_ | refine At_exit rfl ?_ | refine s_no rfl rfl rfl rfl ?_ | refine s_nou rfl rfl rfl ?_ | (refine s_yes rfl rfl rfl rfl ?_; first | refine g_mv ?_ | refine g_as ?_ | refine g_pt ?_ | refine g_pf ?_ | refine g_nt ?_ | refine g_ex ?_ | refine g_nc ?_ | refine g_fa ?_ | refine g_ld ?_ | refine g_ia ?_ | refine g_sl ?_ | refine g_ad ?_ | refine g_sb ?_ | refine g_ln ?_ | refine g_cv ?_ | refine g_lss ?_ | refine g_leq ?_ | refine g_gtr ?_ | refine g_geq ?_ | refine g_eql ?_ | refine g_neq ?_ | refine g_eqlf ?_ | refine g_eqlp ?_ | refine g_eqln ?_ | refine g_neqf ?_ | refine g_neqp ?_ | refine g_neqn ?_))
  refine At_ret1 Try.func23 rfl (by conv => lhs; whnf) ?_
  exact ⟨rfl, h1, k1⟩
def allOf (fm to : Int) (st : List Int) : List Int := st.map fun x => if x = fm then to else x
theorem allOf_length (fm to : Int) (st : List Int) : (allOf fm to st).length = st.length := List.length_map ..
/-- The first k of them turned. -/
def allTo (fm to : Int) (st : List Int) (k : Nat) : List Int := allOf fm to (st.take k) ++ st.drop k
theorem allTo_length (fm to : Int) (st : List Int) (k : Nat) : (allTo fm to st k).length = st.length := by simp [allTo, allOf]; omega
theorem allTo_get (fm to : Int) (st : List Int) (k : Nat) (hk : k < st.length) : (allTo fm to st k).getD k 0 = st.getD k 0 := by
  have h : (allOf fm to (st.take k)).length = k := by rw [allOf_length, List.length_take]; omega
  simp [allTo, List.getD, List.getElem?_append_right, h, hk]
theorem allTo_snoc (fm to : Int) (st : List Int) (k : Nat) (hk : k < st.length) : allTo fm to st (k + 1) = (allTo fm to st k).set k (if st.getD k 0 = fm then to else st.getD k 0) := by
  have h : (allOf fm to (st.take k)).length = k := by rw [allOf_length, List.length_take]; omega
  rw [allTo, allTo, List.set_append_right _ _ (by omega), h, Nat.sub_self, List.drop_eq_getElem_cons hk, List.set_cons_zero, List.take_succ_eq_append_getElem hk, getD_lt hk]
  simp only [allOf, List.map_append, List.map_cons, List.map_nil, List.append_assoc, List.cons_append, List.nil_append]
theorem set_same {xs : List Int} {k : Nat} (hk : k < xs.length) : xs.set k (xs.getD k 0) = xs := by rw [getD_lt hk]; simp
set_option maxRecDepth 100000 in
set_option maxHeartbeats 1000000 in
theorem all_u (p q : Nat) (first : Int) (st : List Int) (fm to : Int) (w : World) (h : SpaceAt w p q first st) :
    Calls Try.prog 36 #[.pointer (some ⟨p, 0, none⟩), .int .i64 fm, .int .i64 to] w
      fun e w' => e = .returned (.tuple #[]) ∧ SpaceAt w' p q first (allOf fm to st) ∧ Kp (fun j => j = q) w w' := by
  have lo := h.lo
  have hi := h.hi
  have Bp := h.head
  have hne := h.ne
  refine calls_at (n := 29) Try.func36 rfl rfl (by simp) ?_
  repeat (first | refine AtR_nil ?_ | refine s_mv ?_ | refine s_as ?_ | refine s_pt ?_ | refine s_pf ?_ | refine s_nt ?_ | refine s_ex ?_ | refine s_nc ?_ | refine s_fa ?_ | refine s_ld ?_ | refine s_ia ?_ | refine s_sl ?_ | refine s_ad ?_ | refine s_sb ?_ | refine s_ln ?_ | refine s_cv ?_ | refine s_lss ?_ | refine s_leq ?_ | refine s_gtr ?_ | refine s_geq ?_ | refine s_eql ?_ | refine s_neq ?_ | refine s_eqlf ?_ | refine s_eqlp ?_ | refine s_eqln ?_ | refine s_neqf ?_ | refine s_neqp ?_ | refine s_neqn ?_ | refine At_seq ?_ | refine At_region ?_ | refine AtR_nil ?_ | refine At_block ?_ | refine At_inBlock ?_ | refine At_skip ?_ | refine At_cond_t rfl ?_ | refine At_cond_f rfl ?_ | refine At_exit rfl ?_ | refine s_no rfl rfl rfl rfl ?_ | refine s_nou rfl rfl rfl ?_ | (refine s_yes rfl rfl rfl rfl ?_; first | refine g_mv ?_ | refine g_as ?_ | refine g_pt ?_ | refine g_pf ?_ | refine g_nt ?_ | refine g_ex ?_ | refine g_nc ?_ | refine g_fa ?_ | refine g_ld ?_ | refine g_ia ?_ | refine g_sl ?_ | refine g_ad ?_ | refine g_sb ?_ | refine g_ln ?_ | refine g_cv ?_ | refine g_lss ?_ | refine g_leq ?_ | refine g_gtr ?_ | refine g_geq ?_ | refine g_eql ?_ | refine g_neq ?_ | refine g_eqlf ?_ | refine g_eqlp ?_ | refine g_eqln ?_ | refine g_neqf ?_ | refine g_neqp ?_ | refine g_neqn ?_))
  refine At_while (fun k : Nat => [(0, .pointer (some ⟨p, 0, none⟩)), (1, .int .i64 fm), (2, .int .i64 to), (11, .slice (some ⟨q, 0, none⟩) st.length st.length), (12, .int .i64 st.length), (13, .int .i64 k)])
    (fun k w' => k ≤ st.length ∧ SpaceAt w' p q first (allTo fm to st k) ∧ Kp (fun j => j = q) w w') (fun k => st.length - k) 0 ⟨rfl, rfl, rfl, rfl, rfl, rfl, trivial⟩
    ⟨by omega, by simpa [allTo, allOf] using h, Kp.refl _ _⟩ ?_
  clear Bp
  rintro k w1 junk ⟨hk, h1, k1⟩ again
  by_cases hlt : k < st.length
  · have Bq := h1.row
    have Bp := h1.head
    rw [allTo_length] at Bp
    have hlen := allTo_length fm to st k
    have hg := allTo_get fm to st k hlt
    by_cases hc : (allTo fm to st k).getD k 0 = fm
    · repeat (first | refine AtR_nil ?_ | refine s_mv ?_ | refine s_as ?_ | refine s_pt ?_ | refine s_pf ?_ | refine s_nt ?_ | refine s_ex ?_ | refine s_nc ?_ | refine s_fa ?_ | refine s_ld ?_ | refine s_ia ?_ | refine s_sl ?_ | refine s_ad ?_ | refine s_sb ?_ | refine s_ln ?_ | refine s_cv ?_ | refine s_lss ?_ | refine s_leq ?_ | refine s_gtr ?_ | refine s_geq ?_ | refine s_eql ?_ | refine s_neq ?_ | refine s_eqlf ?_ | refine s_eqlp ?_ | refine s_eqln ?_ | refine s_neqf ?_ | refine s_neqp ?_ | refine s_neqn ?_ | refine At_seq ?_ | refine At_region ?_ | refine AtR_nil ?_ | refine At_block ?_ | refine At_inBlock ?_ | refine At_skip ?_ | refine At_cond_t rfl ?_ | refine At_cond_f rfl ?_ | refine At_exit rfl ?_ | refine s_no rfl rfl rfl rfl ?_ | refine s_nou rfl rfl rfl ?_ | (refine s_yes rfl rfl rfl rfl ?_; first | refine g_mv ?_ | refine g_as ?_ | refine g_pt ?_ | refine g_pf ?_ | refine g_nt ?_ | refine g_ex ?_ | refine g_nc ?_ | refine g_fa ?_ | refine g_ld ?_ | refine g_ia ?_ | refine g_sl ?_ | refine g_ad ?_ | refine g_sb ?_ | refine g_ln ?_ | refine g_cv ?_ | refine g_lss ?_ | refine g_leq ?_ | refine g_gtr ?_ | refine g_geq ?_ | refine g_eql ?_ | refine g_neq ?_ | refine g_eqlf ?_ | refine g_eqlp ?_ | refine g_eqln ?_ | refine g_neqf ?_ | refine g_neqp ?_ | refine g_neqn ?_))
      refine AtR_go rfl (G_skip (r_store_bints rfl rfl Bq (by omega) rfl) fun w2 e2 => ?_)
      repeat (first | refine AtR_nil ?_ | refine s_mv ?_ | refine s_as ?_ | refine s_pt ?_ | refine s_pf ?_ | refine s_nt ?_ | refine s_ex ?_ | refine s_nc ?_ | refine s_fa ?_ | refine s_ld ?_ | refine s_ia ?_ | refine s_sl ?_ | refine s_ad ?_ | refine s_sb ?_ | refine s_ln ?_ | refine s_cv ?_ | refine s_lss ?_ | refine s_leq ?_ | refine s_gtr ?_ | refine s_geq ?_ | refine s_eql ?_ | refine s_neq ?_ | refine s_eqlf ?_ | refine s_eqlp ?_ | refine s_eqln ?_ | refine s_neqf ?_ | refine s_neqp ?_ | refine s_neqn ?_ | refine At_seq ?_ | refine At_region ?_ | refine AtR_nil ?_ | refine At_block ?_ | refine At_inBlock ?_ | refine At_skip ?_ | refine At_cond_t rfl ?_ | refine At_cond_f rfl ?_ | refine At_exit rfl ?_ | refine s_no rfl rfl rfl rfl ?_ | refine s_nou rfl rfl rfl ?_ | (refine s_yes rfl rfl rfl rfl ?_; first | refine g_mv ?_ | refine g_as ?_ | refine g_pt ?_ | refine g_pf ?_ | refine g_nt ?_ | refine g_ex ?_ | refine g_nc ?_ | refine g_fa ?_ | refine g_ld ?_ | refine g_ia ?_ | refine g_sl ?_ | refine g_ad ?_ | refine g_sb ?_ | refine g_ln ?_ | refine g_cv ?_ | refine g_lss ?_ | refine g_leq ?_ | refine g_gtr ?_ | refine g_geq ?_ | refine g_eql ?_ | refine g_neq ?_ | refine g_eqlf ?_ | refine g_eqlp ?_ | refine g_eqln ?_ | refine g_neqf ?_ | refine g_neqp ?_ | refine g_neqn ?_))
      refine again (k + 1) _ _ ?_ ?_ (by omega)
      · exact ⟨rfl, rfl, rfl, rfl, rfl, rfl, trivial⟩
      refine ⟨hlt, ?_, k1.trans (e2.kp (.inl rfl))⟩
      rw [allTo_snoc _ _ _ _ hlt, ← hg, if_pos hc]
      exact ⟨by rw [List.length_set, hlen]; exact Bp.eff e2 hne, e2.blk, hne, lo, by rw [List.length_set, hlen]; exact hi⟩
    · repeat (first | refine AtR_nil ?_ | refine s_mv ?_ | refine s_as ?_ | refine s_pt ?_ | refine s_pf ?_ | refine s_nt ?_ | refine s_ex ?_ | refine s_nc ?_ | refine s_fa ?_ | refine s_ld ?_ | refine s_ia ?_ | refine s_sl ?_ | refine s_ad ?_ | refine s_sb ?_ | refine s_ln ?_ | refine s_cv ?_ | refine s_lss ?_ | refine s_leq ?_ | refine s_gtr ?_ | refine s_geq ?_ | refine s_eql ?_ | refine s_neq ?_ | refine s_eqlf ?_ | refine s_eqlp ?_ | refine s_eqln ?_ | refine s_neqf ?_ | refine s_neqp ?_ | refine s_neqn ?_ | refine At_seq ?_ | refine At_region ?_ | refine AtR_nil ?_ | refine At_block ?_ | refine At_inBlock ?_ | refine At_skip ?_ | refine At_cond_t rfl ?_ | refine At_cond_f rfl ?_ | refine At_exit rfl ?_ | refine s_no rfl rfl rfl rfl ?_ | refine s_nou rfl rfl rfl ?_ | (refine s_yes rfl rfl rfl rfl ?_; first | refine g_mv ?_ | refine g_as ?_ | refine g_pt ?_ | refine g_pf ?_ | refine g_nt ?_ | refine g_ex ?_ | refine g_nc ?_ | refine g_fa ?_ | refine g_ld ?_ | refine g_ia ?_ | refine g_sl ?_ | refine g_ad ?_ | refine g_sb ?_ | refine g_ln ?_ | refine g_cv ?_ | refine g_lss ?_ | refine g_leq ?_ | refine g_gtr ?_ | refine g_geq ?_ | refine g_eql ?_ | refine g_neq ?_ | refine g_eqlf ?_ | refine g_eqlp ?_ | refine g_eqln ?_ | refine g_neqf ?_ | refine g_neqp ?_ | refine g_neqn ?_))
      refine again (k + 1) _ _ ?_ ?_ (by omega)
      · exact ⟨rfl, rfl, rfl, rfl, rfl, rfl, trivial⟩
      refine ⟨hlt, ?_, k1⟩
      rw [allTo_snoc _ _ _ _ hlt, ← hg, if_neg hc, set_same (by omega)]
      exact h1
  · have e : allTo fm to st k = allOf fm to st := by
      have hk : k = st.length := by omega
      subst hk
      simp [allTo]
    rw [e] at h1
    repeat (first | refine AtR_nil ?_ | refine s_mv ?_ | refine s_as ?_ | refine s_pt ?_ | refine s_pf ?_ | refine s_nt ?_ | refine s_ex ?_ | refine s_nc ?_ | refine s_fa ?_ | refine s_ld ?_ | refine s_ia ?_ | refine s_sl ?_ | refine s_ad ?_ | refine s_sb ?_ | refine s_ln ?_ | refine s_cv ?_ | refine s_lss ?_ | refine s_leq ?_ | refine s_gtr ?_ | refine s_geq ?_ | refine s_eql ?_ | refine s_neq ?_ | refine s_eqlf ?_ | refine s_eqlp ?_ | refine s_eqln ?_ | refine s_neqf ?_ | refine s_neqp ?_ | refine s_neqn ?_ | refine At_seq ?_ | refine At_region ?_ | refine AtR_nil ?_ | refine At_block ?_ | refine At_inBlock ?_ | refine At_skip ?_ | refine At_cond_t rfl ?_ | refine At_cond_f rfl ?_ | refine At_exit rfl ?_ | refine s_no rfl rfl rfl rfl ?_ | refine s_nou rfl rfl rfl ?_ | (refine s_yes rfl rfl rfl rfl ?_; first | refine g_mv ?_ | refine g_as ?_ | refine g_pt ?_ | refine g_pf ?_ | refine g_nt ?_ | refine g_ex ?_ | refine g_nc ?_ | refine g_fa ?_ | refine g_ld ?_ | refine g_ia ?_ | refine g_sl ?_ | refine g_ad ?_ | refine g_sb ?_ | refine g_ln ?_ | refine g_cv ?_ | refine g_lss ?_ | refine g_leq ?_ | refine g_gtr ?_ | refine g_geq ?_ | refine g_eql ?_ | refine g_neq ?_ | refine g_eqlf ?_ | refine g_eqlp ?_ | refine g_eqln ?_ | refine g_neqf ?_ | refine g_neqp ?_ | refine g_neqn ?_))
    refine At_end0 Try.func36 rfl ⟨rfl, h1, k1⟩
set_option maxRecDepth 100000 in
theorem settle_u (p q : Nat) (first : Int) (st : List Int) (w : World) (h : SpaceAt w p q first st) :
    Calls Try.prog 20 #[.pointer (some ⟨p, 0, none⟩)] w fun e w' => e = .returned (.tuple #[]) ∧ SpaceAt w' p q first (allOf 2 0 st) ∧ Kp (fun j => j = q) w w' := by
  refine calls_at (n := 4) Try.func20 rfl rfl (by simp) ?_
  repeat (first | refine AtR_nil ?_ | refine s_mv ?_ | refine s_as ?_ | refine s_pt ?_ | refine s_pf ?_ | refine s_nt ?_ | refine s_ex ?_ | refine s_nc ?_ | refine s_fa ?_ | refine s_ld ?_ | refine s_ia ?_ | refine s_sl ?_ | refine s_ad ?_ | refine s_sb ?_ | refine s_ln ?_ | refine s_cv ?_ | refine s_lss ?_ | refine s_leq ?_ | refine s_gtr ?_ | refine s_geq ?_ | refine s_eql ?_ | refine s_neq ?_ | refine s_eqlf ?_ | refine s_eqlp ?_ | refine s_eqln ?_ | refine s_neqf ?_ | refine s_neqp ?_ | refine s_neqn ?_ | refine At_seq ?_ | refine At_region ?_ | refine AtR_nil ?_ | refine At_block ?_ | refine At_inBlock ?_ | refine At_skip ?_ | refine At_cond_t rfl ?_ | refine At_cond_f rfl ?_ | refine At_exit rfl ?_ | refine s_no rfl rfl rfl rfl ?_ | refine s_nou rfl rfl rfl ?_ | (refine s_yes rfl rfl rfl rfl ?_; first | refine g_mv ?_ | refine g_as ?_ | refine g_pt ?_ | refine g_pf ?_ | refine g_nt ?_ | refine g_ex ?_ | refine g_nc ?_ | refine g_fa ?_ | refine g_ld ?_ | refine g_ia ?_ | refine g_sl ?_ | refine g_ad ?_ | refine g_sb ?_ | refine g_ln ?_ | refine g_cv ?_ | refine g_lss ?_ | refine g_leq ?_ | refine g_gtr ?_ | refine g_geq ?_ | refine g_eql ?_ | refine g_neq ?_ | refine g_eqlf ?_ | refine g_eqlp ?_ | refine g_eqln ?_ | refine g_neqf ?_ | refine g_neqp ?_ | refine g_neqn ?_))
  refine s_call x_call (all_u p q first st 2 0 _ h) ?_
  rintro _ w1 ⟨rfl, h1, k1⟩
  refine ⟨_, rfl, ?_⟩
  repeat (first | refine AtR_nil ?_ | refine s_mv ?_ | refine s_as ?_ | refine s_pt ?_ | refine s_pf ?_ | refine s_nt ?_ | refine s_ex ?_ | refine s_nc ?_ | refine s_fa ?_ | refine s_ld ?_ | refine s_ia ?_ | refine s_sl ?_ | refine s_ad ?_ | refine s_sb ?_ | refine s_ln ?_ | refine s_cv ?_ | refine s_lss ?_ | refine s_leq ?_ | refine s_gtr ?_ | refine s_geq ?_ | refine s_eql ?_ | refine s_neq ?_ | refine s_eqlf ?_ | refine s_eqlp ?_ | refine s_eqln ?_ | refine s_neqf ?_ | refine s_neqp ?_ | refine s_neqn ?_ | refine At_seq ?_ | refine At_region ?_ | refine AtR_nil ?_ | refine At_block ?_ | refine At_inBlock ?_ | refine At_skip ?_ | refine At_cond_t rfl ?_ | refine At_cond_f rfl ?_ | refine At_exit rfl ?_ | refine s_no rfl rfl rfl rfl ?_ | refine s_nou rfl rfl rfl ?_ | (refine s_yes rfl rfl rfl rfl ?_; first | refine g_mv ?_ | refine g_as ?_ | refine g_pt ?_ | refine g_pf ?_ | refine g_nt ?_ | refine g_ex ?_ | refine g_nc ?_ | refine g_fa ?_ | refine g_ld ?_ | refine g_ia ?_ | refine g_sl ?_ | refine g_ad ?_ | refine g_sb ?_ | refine g_ln ?_ | refine g_cv ?_ | refine g_lss ?_ | refine g_leq ?_ | refine g_gtr ?_ | refine g_geq ?_ | refine g_eql ?_ | refine g_neq ?_ | refine g_eqlf ?_ | refine g_eqlp ?_ | refine g_eqln ?_ | refine g_neqf ?_ | refine g_neqp ?_ | refine g_neqn ?_))
  exact At_end0 Try.func20 rfl ⟨rfl, h1, k1⟩
set_option maxRecDepth 100000 in
set_option maxHeartbeats 1000000 in
theorem free_u (p q : Nat) (first : Int) (st : List Int) (w : World) (h : SpaceAt w p q first st) :
    Calls Try.prog 19 #[.pointer (some ⟨p, 0, none⟩)] w fun e w' => e = .returned (.int .i64 (st.count 0 : Nat)) ∧ w = w' := by
  have lo := h.lo
  have hi := h.hi
  have Bp := h.head
  have Bq := h.row
  refine calls_at (n := 21) Try.func19 rfl rfl (by simp) ?_
  repeat (first | refine AtR_nil ?_ | refine s_mv ?_ | refine s_as ?_ | refine s_pt ?_ | refine s_pf ?_ | refine s_nt ?_ | refine s_ex ?_ | refine s_nc ?_ | refine s_fa ?_ | refine s_ld ?_ | refine s_ia ?_ | refine s_sl ?_ | refine s_ad ?_ | refine s_sb ?_ | refine s_ln ?_ | refine s_cv ?_ | refine s_lss ?_ | refine s_leq ?_ | refine s_gtr ?_ | refine s_geq ?_ | refine s_eql ?_ | refine s_neq ?_ | refine s_eqlf ?_ | refine s_eqlp ?_ | refine s_eqln ?_ | refine s_neqf ?_ | refine s_neqp ?_ | refine s_neqn ?_ | refine At_seq ?_ | refine At_region ?_ | refine AtR_nil ?_ | refine At_block ?_ | refine At_inBlock ?_ | refine At_skip ?_ | refine At_cond_t rfl ?_ | refine At_cond_f rfl ?_ | refine At_exit rfl ?_ | refine s_no rfl rfl rfl rfl ?_ | refine s_nou rfl rfl rfl ?_ | (refine s_yes rfl rfl rfl rfl ?_; first | refine g_mv ?_ | refine g_as ?_ | refine g_pt ?_ | refine g_pf ?_ | refine g_nt ?_ | refine g_ex ?_ | refine g_nc ?_ | refine g_fa ?_ | refine g_ld ?_ | refine g_ia ?_ | refine g_sl ?_ | refine g_ad ?_ | refine g_sb ?_ | refine g_ln ?_ | refine g_cv ?_ | refine g_lss ?_ | refine g_leq ?_ | refine g_gtr ?_ | refine g_geq ?_ | refine g_eql ?_ | refine g_neq ?_ | refine g_eqlf ?_ | refine g_eqlp ?_ | refine g_eqln ?_ | refine g_neqf ?_ | refine g_neqp ?_ | refine g_neqn ?_))
  refine At_while (fun k : Nat => [(3, .int .i64 ((st.take k).count 0 : Nat)), (9, .slice (some ⟨q, 0, none⟩) st.length st.length), (10, .int .i64 st.length), (11, .int .i64 k)])
    (fun k w' => w' = w ∧ k ≤ st.length) (fun k => st.length - k) 0 ⟨rfl, rfl, rfl, rfl, trivial⟩ ⟨rfl, by omega⟩ ?_
  rintro k w junk ⟨rfl, hk⟩ again
  by_cases hlt : k < st.length
  · have hcount := List.count_le_length (l := st.take k) (a := (0 : Int))
    rw [List.length_take] at hcount
    have e := List.take_succ_eq_append_getElem hlt
    rw [← getD_lt hlt] at e
    by_cases hc : st.getD k 0 = 0
    · repeat (first | refine AtR_nil ?_ | refine s_mv ?_ | refine s_as ?_ | refine s_pt ?_ | refine s_pf ?_ | refine s_nt ?_ | refine s_ex ?_ | refine s_nc ?_ | refine s_fa ?_ | refine s_ld ?_ | refine s_ia ?_ | refine s_sl ?_ | refine s_ad ?_ | refine s_sb ?_ | refine s_ln ?_ | refine s_cv ?_ | refine s_lss ?_ | refine s_leq ?_ | refine s_gtr ?_ | refine s_geq ?_ | refine s_eql ?_ | refine s_neq ?_ | refine s_eqlf ?_ | refine s_eqlp ?_ | refine s_eqln ?_ | refine s_neqf ?_ | refine s_neqp ?_ | refine s_neqn ?_ | refine At_seq ?_ | refine At_region ?_ | refine AtR_nil ?_ | refine At_block ?_ | refine At_inBlock ?_ | refine At_skip ?_ | refine At_cond_t rfl ?_ | refine At_cond_f rfl ?_ | refine At_exit rfl ?_ | refine s_no rfl rfl rfl rfl ?_ | refine s_nou rfl rfl rfl ?_ | (refine s_yes rfl rfl rfl rfl ?_; first | refine g_mv ?_ | refine g_as ?_ | refine g_pt ?_ | refine g_pf ?_ | refine g_nt ?_ | refine g_ex ?_ | refine g_nc ?_ | refine g_fa ?_ | refine g_ld ?_ | refine g_ia ?_ | refine g_sl ?_ | refine g_ad ?_ | refine g_sb ?_ | refine g_ln ?_ | refine g_cv ?_ | refine g_lss ?_ | refine g_leq ?_ | refine g_gtr ?_ | refine g_geq ?_ | refine g_eql ?_ | refine g_neq ?_ | refine g_eqlf ?_ | refine g_eqlp ?_ | refine g_eqln ?_ | refine g_neqf ?_ | refine g_neqp ?_ | refine g_neqn ?_))
      refine again (k + 1) _ _ ?_ ⟨rfl, hlt⟩ (by omega)
      refine ⟨?_, rfl, rfl, rfl, trivial⟩
      rw [e, hc, List.count_append, List.count_singleton_self]
      rfl
    · repeat (first | refine AtR_nil ?_ | refine s_mv ?_ | refine s_as ?_ | refine s_pt ?_ | refine s_pf ?_ | refine s_nt ?_ | refine s_ex ?_ | refine s_nc ?_ | refine s_fa ?_ | refine s_ld ?_ | refine s_ia ?_ | refine s_sl ?_ | refine s_ad ?_ | refine s_sb ?_ | refine s_ln ?_ | refine s_cv ?_ | refine s_lss ?_ | refine s_leq ?_ | refine s_gtr ?_ | refine s_geq ?_ | refine s_eql ?_ | refine s_neq ?_ | refine s_eqlf ?_ | refine s_eqlp ?_ | refine s_eqln ?_ | refine s_neqf ?_ | refine s_neqp ?_ | refine s_neqn ?_ | refine At_seq ?_ | refine At_region ?_ | refine AtR_nil ?_ | refine At_block ?_ | refine At_inBlock ?_ | refine At_skip ?_ | refine At_cond_t rfl ?_ | refine At_cond_f rfl ?_ | refine At_exit rfl ?_ | refine s_no rfl rfl rfl rfl ?_ | refine s_nou rfl rfl rfl ?_ | (refine s_yes rfl rfl rfl rfl ?_; first | refine g_mv ?_ | refine g_as ?_ | refine g_pt ?_ | refine g_pf ?_ | refine g_nt ?_ | refine g_ex ?_ | refine g_nc ?_ | refine g_fa ?_ | refine g_ld ?_ | refine g_ia ?_ | refine g_sl ?_ | refine g_ad ?_ | refine g_sb ?_ | refine g_ln ?_ | refine g_cv ?_ | refine g_lss ?_ | refine g_leq ?_ | refine g_gtr ?_ | refine g_geq ?_ | refine g_eql ?_ | refine g_neq ?_ | refine g_eqlf ?_ | refine g_eqlp ?_ | refine g_eqln ?_ | refine g_neqf ?_ | refine g_neqp ?_ | refine g_neqn ?_))
      refine again (k + 1) _ _ ?_ ⟨rfl, hlt⟩ (by omega)
      refine ⟨?_, rfl, rfl, rfl, trivial⟩
      rw [e, List.count_append, List.count_singleton, beq_eq_false_iff_ne.2 hc]
      rfl
  · repeat (first | refine AtR_nil ?_ | refine s_mv ?_ | refine s_as ?_ | refine s_pt ?_ | refine s_pf ?_ | refine s_nt ?_ | refine s_ex ?_ | refine s_nc ?_ | refine s_fa ?_ | refine s_ld ?_ | refine s_ia ?_ | refine s_sl ?_ | refine s_ad ?_ | refine s_sb ?_ | refine s_ln ?_ | refine s_cv ?_ | refine s_lss ?_ | refine s_leq ?_ | refine s_gtr ?_ | refine s_geq ?_ | refine s_eql ?_ | refine s_neq ?_ | refine s_eqlf ?_ | refine s_eqlp ?_ | refine s_eqln ?_ | refine s_neqf ?_ | refine s_neqp ?_ | refine s_neqn ?_ | refine At_seq ?_ | refine At_region ?_ | refine AtR_nil ?_ | refine At_block ?_ | refine At_inBlock ?_ | refine At_skip ?_ | refine At_cond_t rfl ?_ | refine At_cond_f rfl ?_ | refine At_exit rfl ?_ | refine s_no rfl rfl rfl rfl ?_ | refine s_nou rfl rfl rfl ?_ | (refine s_yes rfl rfl rfl rfl ?_; first | refine g_mv ?_ | refine g_as ?_ | refine g_pt ?_ | refine g_pf ?_ | refine g_nt ?_ | refine g_ex ?_ | refine g_nc ?_ | refine g_fa ?_ | refine g_ld ?_ | refine g_ia ?_ | refine g_sl ?_ | refine g_ad ?_ | refine g_sb ?_ | refine g_ln ?_ | refine g_cv ?_ | refine g_lss ?_ | refine g_leq ?_ | refine g_gtr ?_ | refine g_geq ?_ | refine g_eql ?_ | refine g_neq ?_ | refine g_eqlf ?_ | refine g_eqlp ?_ | refine g_eqln ?_ | refine g_neqf ?_ | refine g_neqp ?_ | refine g_neqn ?_))
    refine At_ret1 Try.func19 rfl (by conv => lhs; whnf) ?_
    rw [List.take_of_length_le (by omega)]
    exact ⟨rfl, rfl⟩
/-- The sectors that are used. -/
def usedL : Int → List Int → List Int
  | _, [] => []
  | first, x :: xs => if x = 1 then first :: usedL (first + 1) xs else usedL (first + 1) xs
theorem usedL_snoc (xs : List Int) : ∀ (first x : Int), usedL first (xs ++ [x]) = usedL first xs ++ if x = 1 then [first + xs.length] else [] := by
  induction xs with
  | nil => intro first x; simp [usedL]
  | cons y ys ih =>
    intro first x
    have e : first + 1 + (ys.length : Int) = first + ((ys.length + 1 : Nat) : Int) := by omega
    simp only [List.cons_append, usedL, ih, List.length_cons, e]
    split <;> simp
theorem usedL_length (xs : List Int) : ∀ first, (usedL first xs).length = xs.count 1 := by
  induction xs with
  | nil => intro first; rfl
  | cons y ys ih =>
    intro first
    rw [usedL, List.count_cons]
    by_cases h : y = 1
    · simp [h, ih]
    · simp [h, ih]
set_option maxRecDepth 100000 in
set_option maxHeartbeats 1000000 in
theorem used_u (p q : Nat) (first : Int) (st : List Int) (w : World) (h : SpaceAt w p q first st) :
    Calls Try.prog 21 #[.pointer (some ⟨p, 0, none⟩)] w fun e w' => ∃ a cap, e = .returned (.slice a (usedL first st).length cap) ∧ Own w' 3 1 a (usedL first st).length cap (ints .i64 (usedL first st)) ∧ (∀ j, blkOf a j → w.heap.size ≤ j) ∧ Kp No w w' := by
  have lo := h.lo
  have hi := h.hi
  refine calls_at (n := 29) Try.func21 rfl rfl (by simp) ?_
  have Bp := h.head
  repeat (first | refine AtR_nil ?_ | refine s_mv ?_ | refine s_as ?_ | refine s_pt ?_ | refine s_pf ?_ | refine s_nt ?_ | refine s_ex ?_ | refine s_nc ?_ | refine s_fa ?_ | refine s_ld ?_ | refine s_ia ?_ | refine s_sl ?_ | refine s_ad ?_ | refine s_sb ?_ | refine s_ln ?_ | refine s_cv ?_ | refine s_lss ?_ | refine s_leq ?_ | refine s_gtr ?_ | refine s_geq ?_ | refine s_eql ?_ | refine s_neq ?_ | refine s_eqlf ?_ | refine s_eqlp ?_ | refine s_eqln ?_ | refine s_neqf ?_ | refine s_neqp ?_ | refine s_neqn ?_ | refine At_seq ?_ | refine At_region ?_ | refine AtR_nil ?_ | refine At_block ?_ | refine At_inBlock ?_ | refine At_skip ?_ | refine At_cond_t rfl ?_ | refine At_cond_f rfl ?_ | refine At_exit rfl ?_ | refine s_no rfl rfl rfl rfl ?_ | refine s_nou rfl rfl rfl ?_ | (refine s_yes rfl rfl rfl rfl ?_; first | refine g_mv ?_ | refine g_as ?_ | refine g_pt ?_ | refine g_pf ?_ | refine g_nt ?_ | refine g_ex ?_ | refine g_nc ?_ | refine g_fa ?_ | refine g_ld ?_ | refine g_ia ?_ | refine g_sl ?_ | refine g_ad ?_ | refine g_sb ?_ | refine g_ln ?_ | refine g_cv ?_ | refine g_lss ?_ | refine g_leq ?_ | refine g_gtr ?_ | refine g_geq ?_ | refine g_eql ?_ | refine g_neq ?_ | refine g_eqlf ?_ | refine g_eqlp ?_ | refine g_eqln ?_ | refine g_neqf ?_ | refine g_neqp ?_ | refine g_neqn ?_))
  clear Bp
  refine At_while (fun s : Nat × Option Addr × Nat => [(0, .pointer (some ⟨p, 0, none⟩)), (3, .slice s.2.1 (usedL first (st.take s.1)).length s.2.2), (9, .slice (some ⟨q, 0, none⟩) st.length st.length), (10, .int .i64 st.length), (11, .int .i64 s.1)])
    (fun s w' => s.1 ≤ st.length ∧ Own w' 3 1 s.2.1 (usedL first (st.take s.1)).length s.2.2 (ints .i64 (usedL first (st.take s.1))) ∧ (∀ j, blkOf s.2.1 j → w.heap.size ≤ j) ∧ Kp No w w') (fun s => st.length - s.1) (0, none, 0) ⟨rfl, rfl, rfl, rfl, rfl, trivial⟩
    ⟨by omega, Own.nil _ _ _, fun j hj => by simp [blkOf] at hj, Kp.refl _ _⟩ ?_
  rintro ⟨k, a, cap⟩ w1 junk ⟨hk, ho, hf, k1⟩ again
  simp only at hk ho hf again ⊢
  have h1 := h.kpn k1
  have Bp := h1.head
  have Bq := h1.row
  by_cases hlt : k < st.length
  · have hcount : (usedL first (st.take k)).length ≤ k := by
      rw [usedL_length]
      have := List.count_le_length (l := st.take k) (a := (1 : Int))
      rw [List.length_take] at this
      omega
    have e := List.take_succ_eq_append_getElem hlt
    rw [← getD_lt hlt] at e
    have e2 : usedL first (st.take (k + 1)) = usedL first (st.take k) ++ if st.getD k 0 = 1 then [first + k] else [] := by
      rw [e, usedL_snoc, List.length_take, Nat.min_eq_left (by omega)]
    by_cases hc : st.getD k 0 = 1
    · rw [if_pos hc] at e2
      repeat (first | refine AtR_nil ?_ | refine s_mv ?_ | refine s_as ?_ | refine s_pt ?_ | refine s_pf ?_ | refine s_nt ?_ | refine s_ex ?_ | refine s_nc ?_ | refine s_fa ?_ | refine s_ld ?_ | refine s_ia ?_ | refine s_sl ?_ | refine s_ad ?_ | refine s_sb ?_ | refine s_ln ?_ | refine s_cv ?_ | refine s_lss ?_ | refine s_leq ?_ | refine s_gtr ?_ | refine s_geq ?_ | refine s_eql ?_ | refine s_neq ?_ | refine s_eqlf ?_ | refine s_eqlp ?_ | refine s_eqln ?_ | refine s_neqf ?_ | refine s_neqp ?_ | refine s_neqn ?_ | refine At_seq ?_ | refine At_region ?_ | refine AtR_nil ?_ | refine At_block ?_ | refine At_inBlock ?_ | refine At_skip ?_ | refine At_cond_t rfl ?_ | refine At_cond_f rfl ?_ | refine At_exit rfl ?_ | refine s_no rfl rfl rfl rfl ?_ | refine s_nou rfl rfl rfl ?_ | (refine s_yes rfl rfl rfl rfl ?_; first | refine g_mv ?_ | refine g_as ?_ | refine g_pt ?_ | refine g_pf ?_ | refine g_nt ?_ | refine g_ex ?_ | refine g_nc ?_ | refine g_fa ?_ | refine g_ld ?_ | refine g_ia ?_ | refine g_sl ?_ | refine g_ad ?_ | refine g_sb ?_ | refine g_ln ?_ | refine g_cv ?_ | refine g_lss ?_ | refine g_leq ?_ | refine g_gtr ?_ | refine g_geq ?_ | refine g_eql ?_ | refine g_neq ?_ | refine g_eqlf ?_ | refine g_eqlp ?_ | refine g_eqln ?_ | refine g_neqf ?_ | refine g_neqp ?_ | refine g_neqn ?_))
      refine AtR_go rfl (AtG_buildSlice1 (ops := [_]) rfl rfl (by omega) rfl rfl rfl fun b w2 hb e3 => ?_)
      have hsrc : Src Try.prog 1 51 (.slice (some ⟨b, 0, none⟩) 1 1) 1 (ints .i64 [first + (k : Int)]) w2 := (((e3.blk : Blk w2 b 3 (0, 0) (ints .i64 [first + (k : Int)])).sl (m := 1) rfl (by omega)).src rfl)
      refine AtR_go rfl (AtG_append rfl rfl (ho.kp (e3.kp (S := No) (.inr (by omega))) (fun _ _ => id)) hsrc rfl (by omega) (by simp [maxLen]; omega) (by omega) fun a' cap' w3 ho3 k3 hfr => ?_)
      repeat (first | refine AtR_nil ?_ | refine s_mv ?_ | refine s_as ?_ | refine s_pt ?_ | refine s_pf ?_ | refine s_nt ?_ | refine s_ex ?_ | refine s_nc ?_ | refine s_fa ?_ | refine s_ld ?_ | refine s_ia ?_ | refine s_sl ?_ | refine s_ad ?_ | refine s_sb ?_ | refine s_ln ?_ | refine s_cv ?_ | refine s_lss ?_ | refine s_leq ?_ | refine s_gtr ?_ | refine s_geq ?_ | refine s_eql ?_ | refine s_neq ?_ | refine s_eqlf ?_ | refine s_eqlp ?_ | refine s_eqln ?_ | refine s_neqf ?_ | refine s_neqp ?_ | refine s_neqn ?_ | refine At_seq ?_ | refine At_region ?_ | refine AtR_nil ?_ | refine At_block ?_ | refine At_inBlock ?_ | refine At_skip ?_ | refine At_cond_t rfl ?_ | refine At_cond_f rfl ?_ | refine At_exit rfl ?_ | refine s_no rfl rfl rfl rfl ?_ | refine s_nou rfl rfl rfl ?_ | (refine s_yes rfl rfl rfl rfl ?_; first | refine g_mv ?_ | refine g_as ?_ | refine g_pt ?_ | refine g_pf ?_ | refine g_nt ?_ | refine g_ex ?_ | refine g_nc ?_ | refine g_fa ?_ | refine g_ld ?_ | refine g_ia ?_ | refine g_sl ?_ | refine g_ad ?_ | refine g_sb ?_ | refine g_ln ?_ | refine g_cv ?_ | refine g_lss ?_ | refine g_leq ?_ | refine g_gtr ?_ | refine g_geq ?_ | refine g_eql ?_ | refine g_neq ?_ | refine g_eqlf ?_ | refine g_eqlp ?_ | refine g_eqln ?_ | refine g_neqf ?_ | refine g_neqp ?_ | refine g_neqn ?_))
      have hz := e3.size
      have k0 := k1.size
      refine again (k + 1, a', cap') _ _ ?_ ?_ (by omega)
      · refine ⟨rfl, ?_, rfl, rfl, rfl, trivial⟩
        rw [e2, List.length_append]
        rfl
      · simp only
        rw [e2, List.length_append]
        refine ⟨hlt, ?_, ?_, ?_⟩
        · have e4 : ints .i64 (usedL first (st.take k) ++ [first + (k : Int)]) = ints .i64 (usedL first (st.take k)) ++ ints .i64 [first + (k : Int)] := by simp [ints]
          rw [e4]; exact ho3
        · rcases hfr with rfl | ⟨b', rfl, hb'⟩
          · exact hf
          · intro j hj; simp [blkOf] at hj; omega
        · refine (k1.trans (e3.kp (S := No) (.inr (by omega)))).trans' k3 fun j hj => .inr (hf j hj)
    · rw [if_neg hc, List.append_nil] at e2
      repeat (first | refine AtR_nil ?_ | refine s_mv ?_ | refine s_as ?_ | refine s_pt ?_ | refine s_pf ?_ | refine s_nt ?_ | refine s_ex ?_ | refine s_nc ?_ | refine s_fa ?_ | refine s_ld ?_ | refine s_ia ?_ | refine s_sl ?_ | refine s_ad ?_ | refine s_sb ?_ | refine s_ln ?_ | refine s_cv ?_ | refine s_lss ?_ | refine s_leq ?_ | refine s_gtr ?_ | refine s_geq ?_ | refine s_eql ?_ | refine s_neq ?_ | refine s_eqlf ?_ | refine s_eqlp ?_ | refine s_eqln ?_ | refine s_neqf ?_ | refine s_neqp ?_ | refine s_neqn ?_ | refine At_seq ?_ | refine At_region ?_ | refine AtR_nil ?_ | refine At_block ?_ | refine At_inBlock ?_ | refine At_skip ?_ | refine At_cond_t rfl ?_ | refine At_cond_f rfl ?_ | refine At_exit rfl ?_ | refine s_no rfl rfl rfl rfl ?_ | refine s_nou rfl rfl rfl ?_ | (refine s_yes rfl rfl rfl rfl ?_; first | refine g_mv ?_ | refine g_as ?_ | refine g_pt ?_ | refine g_pf ?_ | refine g_nt ?_ | refine g_ex ?_ | refine g_nc ?_ | refine g_fa ?_ | refine g_ld ?_ | refine g_ia ?_ | refine g_sl ?_ | refine g_ad ?_ | refine g_sb ?_ | refine g_ln ?_ | refine g_cv ?_ | refine g_lss ?_ | refine g_leq ?_ | refine g_gtr ?_ | refine g_geq ?_ | refine g_eql ?_ | refine g_neq ?_ | refine g_eqlf ?_ | refine g_eqlp ?_ | refine g_eqln ?_ | refine g_neqf ?_ | refine g_neqp ?_ | refine g_neqn ?_))
      refine again (k + 1, a, cap) _ _ ?_ ?_ (by omega)
      · refine ⟨rfl, ?_, rfl, rfl, rfl, trivial⟩
        rw [e2]; rfl
      · simp only
        rw [e2]
        exact ⟨hlt, ho, hf, k1⟩
  · have e : st.take k = st := List.take_of_length_le (by omega)
    rw [e] at ho
    repeat (first | refine AtR_nil ?_ | refine s_mv ?_ | refine s_as ?_ | refine s_pt ?_ | refine s_pf ?_ | refine s_nt ?_ | refine s_ex ?_ | refine s_nc ?_ | refine s_fa ?_ | refine s_ld ?_ | refine s_ia ?_ | refine s_sl ?_ | refine s_ad ?_ | refine s_sb ?_ | refine s_ln ?_ | refine s_cv ?_ | refine s_lss ?_ | refine s_leq ?_ | refine s_gtr ?_ | refine s_geq ?_ | refine s_eql ?_ | refine s_neq ?_ | refine s_eqlf ?_ | refine s_eqlp ?_ | refine s_eqln ?_ | refine s_neqf ?_ | refine s_neqp ?_ | refine s_neqn ?_ | refine At_seq ?_ | refine At_region ?_ | refine AtR_nil ?_ | refine At_block ?_ | refine At_inBlock ?_ | refine At_skip ?_ | refine At_cond_t rfl ?_ | refine At_cond_f rfl ?_ | refine At_exit rfl ?_ | refine s_no rfl rfl rfl rfl ?_ | refine s_nou rfl rfl rfl ?_ | (refine s_yes rfl rfl rfl rfl ?_; first | refine g_mv ?_ | refine g_as ?_ | refine g_pt ?_ | refine g_pf ?_ | refine g_nt ?_ | refine g_ex ?_ | refine g_nc ?_ | refine g_fa ?_ | refine g_ld ?_ | refine g_ia ?_ | refine g_sl ?_ | refine g_ad ?_ | refine g_sb ?_ | refine g_ln ?_ | refine g_cv ?_ | refine g_lss ?_ | refine g_leq ?_ | refine g_gtr ?_ | refine g_geq ?_ | refine g_eql ?_ | refine g_neq ?_ | refine g_eqlf ?_ | refine g_eqlp ?_ | refine g_eqln ?_ | refine g_neqf ?_ | refine g_neqp ?_ | refine g_neqn ?_))
    refine At_ret1 Try.func21 rfl (by conv => lhs; whnf) ?_
    refine ⟨a, cap, ?_, ho, hf, k1⟩
    rw [e]
end Go.Proofs.Ytogfkmejgjodaaa
