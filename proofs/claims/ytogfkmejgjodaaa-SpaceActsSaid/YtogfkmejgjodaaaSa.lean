/- The functions of the layer 'space': what each does to a space. -/
import Derived.Test.YtogfkmejgjodaaaKt
import Derived.Test.YtogfkmejgjodaaaKh
namespace Go.Proofs.Ytogfkmejgjodaaa
open Go Go.Kx
/-- A space: its first sector; of each what it is (0 free, 1 used, 2 going). -/
structure SpaceAt (w : World) (p q : Nat) (first : Int) (st : List Int) : Prop where
  head : Blk w p 73 (0, 0) [.int .i64 first, .slice (some ⟨q, 0, none⟩) st.length st.length]
  row : Blk w q 75 (0, 0) (ints .i64 st)
  ne : p ≠ q
  lo : 0 ≤ first
  hi : first + st.length ≤ 65536
theorem SpaceAt.kp {S : Nat → Prop} {w w' : World} {p q : Nat} {first : Int} {st : List Int} (h : SpaceAt w p q first st) (hk : Kp S w w') (hp : ¬ S p) (hq : ¬ S q) : SpaceAt w' p q first st :=
  ⟨h.head.kp hk hp, h.row.kp hk hq, h.ne, h.lo, h.hi⟩
theorem SpaceAt.kpn {w w' : World} {p q : Nat} {first : Int} {st : List Int} (h : SpaceAt w p q first st) (hk : Kp No w w') : SpaceAt w' p q first st := h.kp hk id id

/-- Where v stands first; -1: nowhere. -/
def IxR (xs : List Int) (v r : Int) : Prop :=
  (r = -1 ∧ ∀ j, j < xs.length → v ≠ xs.getD j 0) ∨ ∃ k : Nat, r = k ∧ k < xs.length ∧ v = xs.getD k 0 ∧ ∀ j, j < k → v ≠ xs.getD j 0
set_option maxRecDepth 100000 in
theorem indexState_calls (xs : List Int) (v : Int) (a : Option Addr) (len cap : Nat) (w : World) (hs : Sl w .i64 a len cap xs) :
    Calls Try.prog 34 #[.slice a len cap, .int .i64 v] w fun e w' => (∃ r, e = .returned (.int .i64 r) ∧ IxR xs v r) ∧ w = w' := by
  have hl := hs.len_eq
  have hm := hs.max
  have hc := hs.le
  refine calls_at (n := 19) Try.func34 rfl rfl (by simp) ?_
  repeat (first | refine AtR_nil ?_ | refine s_mv ?_ | refine s_as ?_ | refine s_pt ?_ | refine s_pf ?_ | refine s_nt ?_ | refine s_ex ?_ | refine s_nc ?_ | refine s_fa ?_ | refine s_ld ?_ | refine s_ia ?_ | refine s_sl ?_ | refine s_ad ?_ | refine s_sb ?_ | refine s_ln ?_ | refine s_cv ?_ | refine s_lss ?_ | refine s_leq ?_ | refine s_gtr ?_ | refine s_geq ?_ | refine s_eql ?_ | refine s_neq ?_ | refine s_eqlf ?_ | refine s_eqlp ?_ | refine s_eqln ?_ | refine s_neqf ?_ | refine s_neqp ?_ | refine s_neqn ?_ | refine At_seq ?_ | refine At_region ?_ | refine AtR_nil ?_ | refine At_block ?_ | refine At_inBlock ?_ | refine At_skip ?_ | refine At_cond_t rfl ?_ | refine At_cond_f rfl ?_ | refine At_exit rfl ?_ | refine s_no rfl rfl rfl rfl ?_ | refine s_nou rfl rfl rfl ?_ | (refine s_yes rfl rfl rfl rfl ?_; first | refine g_mv ?_ | refine g_as ?_ | refine g_pt ?_ | refine g_pf ?_ | refine g_nt ?_ | refine g_ex ?_ | refine g_nc ?_ | refine g_fa ?_ | refine g_ld ?_ | refine g_ia ?_ | refine g_sl ?_ | refine g_ad ?_ | refine g_sb ?_ | refine g_ln ?_ | refine g_cv ?_ | refine g_lss ?_ | refine g_leq ?_ | refine g_gtr ?_ | refine g_geq ?_ | refine g_eql ?_ | refine g_neq ?_ | refine g_eqlf ?_ | refine g_eqlp ?_ | refine g_eqln ?_ | refine g_neqf ?_ | refine g_neqp ?_ | refine g_neqn ?_))
  refine At_while (fun k : Nat => [(0, .slice a len cap), (1, .int .i64 v), (7, .int .i64 len), (8, .int .i64 k)])
    (fun k w' => w' = w ∧ k ≤ len ∧ ∀ j, j < k → v ≠ xs.getD j 0) (fun k => len - k) 0 ⟨rfl, rfl, rfl, rfl, trivial⟩ ⟨rfl, by omega, by omega⟩ ?_
  rintro k w junk ⟨rfl, hk, he⟩ again
  by_cases hlt : k < len
  · rcases hs.mem with ⟨rfl, h0⟩ | ⟨b, off, rfl, _, hsg⟩
    · omega
    by_cases hv : v = xs.getD k 0
    · repeat (first | refine AtR_nil ?_ | refine s_mv ?_ | refine s_as ?_ | refine s_pt ?_ | refine s_pf ?_ | refine s_nt ?_ | refine s_ex ?_ | refine s_nc ?_ | refine s_fa ?_ | refine s_ld ?_ | refine s_ia ?_ | refine s_sl ?_ | refine s_ad ?_ | refine s_sb ?_ | refine s_ln ?_ | refine s_cv ?_ | refine s_lss ?_ | refine s_leq ?_ | refine s_gtr ?_ | refine s_geq ?_ | refine s_eql ?_ | refine s_neq ?_ | refine s_eqlf ?_ | refine s_eqlp ?_ | refine s_eqln ?_ | refine s_neqf ?_ | refine s_neqp ?_ | refine s_neqn ?_ | refine At_seq ?_ | refine At_region ?_ | refine AtR_nil ?_ | refine At_block ?_ | refine At_inBlock ?_ | refine At_skip ?_ | refine At_cond_t rfl ?_ | refine At_cond_f rfl ?_ | refine At_exit rfl ?_ | refine s_no rfl rfl rfl rfl ?_ | refine s_nou rfl rfl rfl ?_ | (refine s_yes rfl rfl rfl rfl ?_; first | refine g_mv ?_ | refine g_as ?_ | refine g_pt ?_ | refine g_pf ?_ | refine g_nt ?_ | refine g_ex ?_ | refine g_nc ?_ | refine g_fa ?_ | refine g_ld ?_ | refine g_ia ?_ | refine g_sl ?_ | refine g_ad ?_ | refine g_sb ?_ | refine g_ln ?_ | refine g_cv ?_ | refine g_lss ?_ | refine g_leq ?_ | refine g_gtr ?_ | refine g_geq ?_ | refine g_eql ?_ | refine g_neq ?_ | refine g_eqlf ?_ | refine g_eqlp ?_ | refine g_eqln ?_ | refine g_neqf ?_ | refine g_neqp ?_ | refine g_neqn ?_))
      refine At_ret1 Try.func34 rfl (by conv => lhs; whnf) ?_
      exact ⟨⟨_, rfl, .inr ⟨k, rfl, by omega, hv, he⟩⟩, rfl⟩
    · repeat (first | refine AtR_nil ?_ | refine s_mv ?_ | refine s_as ?_ | refine s_pt ?_ | refine s_pf ?_ | refine s_nt ?_ | refine s_ex ?_ | refine s_nc ?_ | refine s_fa ?_ | refine s_ld ?_ | refine s_ia ?_ | refine s_sl ?_ | refine s_ad ?_ | refine s_sb ?_ | refine s_ln ?_ | refine s_cv ?_ | refine s_lss ?_ | refine s_leq ?_ | refine s_gtr ?_ | refine s_geq ?_ | refine s_eql ?_ | refine s_neq ?_ | refine s_eqlf ?_ | refine s_eqlp ?_ | refine s_eqln ?_ | refine s_neqf ?_ | refine s_neqp ?_ | refine s_neqn ?_ | refine At_seq ?_ | refine At_region ?_ | refine AtR_nil ?_ | refine At_block ?_ | refine At_inBlock ?_ | refine At_skip ?_ | refine At_cond_t rfl ?_ | refine At_cond_f rfl ?_ | refine At_exit rfl ?_ | refine s_no rfl rfl rfl rfl ?_ | refine s_nou rfl rfl rfl ?_ | (refine s_yes rfl rfl rfl rfl ?_; first | refine g_mv ?_ | refine g_as ?_ | refine g_pt ?_ | refine g_pf ?_ | refine g_nt ?_ | refine g_ex ?_ | refine g_nc ?_ | refine g_fa ?_ | refine g_ld ?_ | refine g_ia ?_ | refine g_sl ?_ | refine g_ad ?_ | refine g_sb ?_ | refine g_ln ?_ | refine g_cv ?_ | refine g_lss ?_ | refine g_leq ?_ | refine g_gtr ?_ | refine g_geq ?_ | refine g_eql ?_ | refine g_neq ?_ | refine g_eqlf ?_ | refine g_eqlp ?_ | refine g_eqln ?_ | refine g_neqf ?_ | refine g_neqp ?_ | refine g_neqn ?_))
      refine again (k + 1) w _ ?_ ?_ (by omega)
      · exact ⟨rfl, rfl, rfl, rfl, trivial⟩
      refine ⟨rfl, hlt, fun j hj => ?_⟩
      by_cases e : j = k
      · rw [e]; exact hv
      · exact he j (by omega)
  · repeat (first | refine AtR_nil ?_ | refine s_mv ?_ | refine s_as ?_ | refine s_pt ?_ | refine s_pf ?_ | refine s_nt ?_ | refine s_ex ?_ | refine s_nc ?_ | refine s_fa ?_ | refine s_ld ?_ | refine s_ia ?_ | refine s_sl ?_ | refine s_ad ?_ | refine s_sb ?_ | refine s_ln ?_ | refine s_cv ?_ | refine s_lss ?_ | refine s_leq ?_ | refine s_gtr ?_ | refine s_geq ?_ | refine s_eql ?_ | refine s_neq ?_ | refine s_eqlf ?_ | refine s_eqlp ?_ | refine s_eqln ?_ | refine s_neqf ?_ | refine s_neqp ?_ | refine s_neqn ?_ | refine At_seq ?_ | refine At_region ?_ | refine AtR_nil ?_ | refine At_block ?_ | refine At_inBlock ?_ | refine At_skip ?_ | refine At_cond_t rfl ?_ | refine At_cond_f rfl ?_ | refine At_exit rfl ?_ | refine s_no rfl rfl rfl rfl ?_ | refine s_nou rfl rfl rfl ?_ | (refine s_yes rfl rfl rfl rfl ?_; first | refine g_mv ?_ | refine g_as ?_ | refine g_pt ?_ | refine g_pf ?_ | refine g_nt ?_ | refine g_ex ?_ | refine g_nc ?_ | refine g_fa ?_ | refine g_ld ?_ | refine g_ia ?_ | refine g_sl ?_ | refine g_ad ?_ | refine g_sb ?_ | refine g_ln ?_ | refine g_cv ?_ | refine g_lss ?_ | refine g_leq ?_ | refine g_gtr ?_ | refine g_geq ?_ | refine g_eql ?_ | refine g_neq ?_ | refine g_eqlf ?_ | refine g_eqlp ?_ | refine g_eqln ?_ | refine g_neqf ?_ | refine g_neqp ?_ | refine g_neqn ?_))
    refine At_ret1 Try.func34 rfl (by conv => lhs; whnf) ?_
    exact ⟨⟨_, rfl, .inl ⟨rfl, fun j hj => he j (by omega)⟩⟩, rfl⟩
set_option maxRecDepth 100000 in
theorem indexInt_calls (xs : List Int) (v : Int) (a : Option Addr) (len cap : Nat) (w : World) (hs : Sl w .i64 a len cap xs) :
    Calls Try.prog 43 #[.slice a len cap, .int .i64 v] w fun e w' => (∃ r, e = .returned (.int .i64 r) ∧ IxR xs v r) ∧ w = w' := by
  have hl := hs.len_eq
  have hm := hs.max
  have hc := hs.le
  refine calls_at (n := 19) Try.func43 rfl rfl (by simp) ?_
  repeat (first | refine AtR_nil ?_ | refine s_mv ?_ | refine s_as ?_ | refine s_pt ?_ | refine s_pf ?_ | refine s_nt ?_ | refine s_ex ?_ | refine s_nc ?_ | refine s_fa ?_ | refine s_ld ?_ | refine s_ia ?_ | refine s_sl ?_ | refine s_ad ?_ | refine s_sb ?_ | refine s_ln ?_ | refine s_cv ?_ | refine s_lss ?_ | refine s_leq ?_ | refine s_gtr ?_ | refine s_geq ?_ | refine s_eql ?_ | refine s_neq ?_ | refine s_eqlf ?_ | refine s_eqlp ?_ | refine s_eqln ?_ | refine s_neqf ?_ | refine s_neqp ?_ | refine s_neqn ?_ | refine At_seq ?_ | refine At_region ?_ | refine AtR_nil ?_ | refine At_block ?_ | refine At_inBlock ?_ | refine At_skip ?_ | refine At_cond_t rfl ?_ | refine At_cond_f rfl ?_ | refine At_exit rfl ?_ | refine s_no rfl rfl rfl rfl ?_ | refine s_nou rfl rfl rfl ?_ | (refine s_yes rfl rfl rfl rfl ?_; first | refine g_mv ?_ | refine g_as ?_ | refine g_pt ?_ | refine g_pf ?_ | refine g_nt ?_ | refine g_ex ?_ | refine g_nc ?_ | refine g_fa ?_ | refine g_ld ?_ | refine g_ia ?_ | refine g_sl ?_ | refine g_ad ?_ | refine g_sb ?_ | refine g_ln ?_ | refine g_cv ?_ | refine g_lss ?_ | refine g_leq ?_ | refine g_gtr ?_ | refine g_geq ?_ | refine g_eql ?_ | refine g_neq ?_ | refine g_eqlf ?_ | refine g_eqlp ?_ | refine g_eqln ?_ | refine g_neqf ?_ | refine g_neqp ?_ | refine g_neqn ?_))
  refine At_while (fun k : Nat => [(0, .slice a len cap), (1, .int .i64 v), (7, .int .i64 len), (8, .int .i64 k)])
    (fun k w' => w' = w ∧ k ≤ len ∧ ∀ j, j < k → v ≠ xs.getD j 0) (fun k => len - k) 0 ⟨rfl, rfl, rfl, rfl, trivial⟩ ⟨rfl, by omega, by omega⟩ ?_
  rintro k w junk ⟨rfl, hk, he⟩ again
  by_cases hlt : k < len
  · rcases hs.mem with ⟨rfl, h0⟩ | ⟨b, off, rfl, _, hsg⟩
    · omega
    by_cases hv : v = xs.getD k 0
    · repeat (first | refine AtR_nil ?_ | refine s_mv ?_ | refine s_as ?_ | refine s_pt ?_ | refine s_pf ?_ | refine s_nt ?_ | refine s_ex ?_ | refine s_nc ?_ | refine s_fa ?_ | refine s_ld ?_ | refine s_ia ?_ | refine s_sl ?_ | refine s_ad ?_ | refine s_sb ?_ | refine s_ln ?_ | refine s_cv ?_ | refine s_lss ?_ | refine s_leq ?_ | refine s_gtr ?_ | refine s_geq ?_ | refine s_eql ?_ | refine s_neq ?_ | refine s_eqlf ?_ | refine s_eqlp ?_ | refine s_eqln ?_ | refine s_neqf ?_ | refine s_neqp ?_ | refine s_neqn ?_ | refine At_seq ?_ | refine At_region ?_ | refine AtR_nil ?_ | refine At_block ?_ | refine At_inBlock ?_ | refine At_skip ?_ | refine At_cond_t rfl ?_ | refine At_cond_f rfl ?_ | refine At_exit rfl ?_ | refine s_no rfl rfl rfl rfl ?_ | refine s_nou rfl rfl rfl ?_ | (refine s_yes rfl rfl rfl rfl ?_; first | refine g_mv ?_ | refine g_as ?_ | refine g_pt ?_ | refine g_pf ?_ | refine g_nt ?_ | refine g_ex ?_ | refine g_nc ?_ | refine g_fa ?_ | refine g_ld ?_ | refine g_ia ?_ | refine g_sl ?_ | refine g_ad ?_ | refine g_sb ?_ | refine g_ln ?_ | refine g_cv ?_ | refine g_lss ?_ | refine g_leq ?_ | refine g_gtr ?_ | refine g_geq ?_ | refine g_eql ?_ | refine g_neq ?_ | refine g_eqlf ?_ | refine g_eqlp ?_ | refine g_eqln ?_ | refine g_neqf ?_ | refine g_neqp ?_ | refine g_neqn ?_))
      refine At_ret1 Try.func43 rfl (by conv => lhs; whnf) ?_
      exact ⟨⟨_, rfl, .inr ⟨k, rfl, by omega, hv, he⟩⟩, rfl⟩
    · repeat (first | refine AtR_nil ?_ | refine s_mv ?_ | refine s_as ?_ | refine s_pt ?_ | refine s_pf ?_ | refine s_nt ?_ | refine s_ex ?_ | refine s_nc ?_ | refine s_fa ?_ | refine s_ld ?_ | refine s_ia ?_ | refine s_sl ?_ | refine s_ad ?_ | refine s_sb ?_ | refine s_ln ?_ | refine s_cv ?_ | refine s_lss ?_ | refine s_leq ?_ | refine s_gtr ?_ | refine s_geq ?_ | refine s_eql ?_ | refine s_neq ?_ | refine s_eqlf ?_ | refine s_eqlp ?_ | refine s_eqln ?_ | refine s_neqf ?_ | refine s_neqp ?_ | refine s_neqn ?_ | refine At_seq ?_ | refine At_region ?_ | refine AtR_nil ?_ | refine At_block ?_ | refine At_inBlock ?_ | refine At_skip ?_ | refine At_cond_t rfl ?_ | refine At_cond_f rfl ?_ | refine At_exit rfl ?_ | refine s_no rfl rfl rfl rfl ?_ | refine s_nou rfl rfl rfl ?_ | (refine s_yes rfl rfl rfl rfl ?_; first | refine g_mv ?_ | refine g_as ?_ | refine g_pt ?_ | refine g_pf ?_ | refine g_nt ?_ | refine g_ex ?_ | refine g_nc ?_ | refine g_fa ?_ | refine g_ld ?_ | refine g_ia ?_ | refine g_sl ?_ | refine g_ad ?_ | refine g_sb ?_ | refine g_ln ?_ | refine g_cv ?_ | refine g_lss ?_ | refine g_leq ?_ | refine g_gtr ?_ | refine g_geq ?_ | refine g_eql ?_ | refine g_neq ?_ | refine g_eqlf ?_ | refine g_eqlp ?_ | refine g_eqln ?_ | refine g_neqf ?_ | refine g_neqp ?_ | refine g_neqn ?_))
      refine again (k + 1) w _ ?_ ?_ (by omega)
      · exact ⟨rfl, rfl, rfl, rfl, trivial⟩
      refine ⟨rfl, hlt, fun j hj => ?_⟩
      by_cases e : j = k
      · rw [e]; exact hv
      · exact he j (by omega)
  · repeat (first | refine AtR_nil ?_ | refine s_mv ?_ | refine s_as ?_ | refine s_pt ?_ | refine s_pf ?_ | refine s_nt ?_ | refine s_ex ?_ | refine s_nc ?_ | refine s_fa ?_ | refine s_ld ?_ | refine s_ia ?_ | refine s_sl ?_ | refine s_ad ?_ | refine s_sb ?_ | refine s_ln ?_ | refine s_cv ?_ | refine s_lss ?_ | refine s_leq ?_ | refine s_gtr ?_ | refine s_geq ?_ | refine s_eql ?_ | refine s_neq ?_ | refine s_eqlf ?_ | refine s_eqlp ?_ | refine s_eqln ?_ | refine s_neqf ?_ | refine s_neqp ?_ | refine s_neqn ?_ | refine At_seq ?_ | refine At_region ?_ | refine AtR_nil ?_ | refine At_block ?_ | refine At_inBlock ?_ | refine At_skip ?_ | refine At_cond_t rfl ?_ | refine At_cond_f rfl ?_ | refine At_exit rfl ?_ | refine s_no rfl rfl rfl rfl ?_ | refine s_nou rfl rfl rfl ?_ | (refine s_yes rfl rfl rfl rfl ?_; first | refine g_mv ?_ | refine g_as ?_ | refine g_pt ?_ | refine g_pf ?_ | refine g_nt ?_ | refine g_ex ?_ | refine g_nc ?_ | refine g_fa ?_ | refine g_ld ?_ | refine g_ia ?_ | refine g_sl ?_ | refine g_ad ?_ | refine g_sb ?_ | refine g_ln ?_ | refine g_cv ?_ | refine g_lss ?_ | refine g_leq ?_ | refine g_gtr ?_ | refine g_geq ?_ | refine g_eql ?_ | refine g_neq ?_ | refine g_eqlf ?_ | refine g_eqlp ?_ | refine g_eqln ?_ | refine g_neqf ?_ | refine g_neqp ?_ | refine g_neqn ?_))
    refine At_ret1 Try.func43 rfl (by conv => lhs; whnf) ?_
    exact ⟨⟨_, rfl, .inl ⟨rfl, fun j hj => he j (by omega)⟩⟩, rfl⟩
theorem IxR_mem {xs : List Int} {v r : Int} (h : IxR xs v r) : (0 ≤ r ↔ v ∈ xs) := by
  rcases h with ⟨rfl, h⟩ | ⟨k, rfl, hk, hv, _⟩
  · constructor
    · intro h; omega
    · intro hm
      obtain ⟨j, hj, e⟩ := List.getElem_of_mem hm
      exact absurd (by rw [getD_lt hj, e]) (h j hj)
  · constructor
    · intro _; rw [hv, getD_lt hk]; exact List.getElem_mem hk
    · intro _; omega
set_option maxRecDepth 100000 in
theorem contains_calls (xs : List Int) (v : Int) (a : Option Addr) (len cap : Nat) (w : World) (hs : Sl w .i64 a len cap xs) :
    Calls Try.prog 42 #[.slice a len cap, .int .i64 v] w fun e w' => e = .returned (.bool (decide (v ∈ xs))) ∧ w = w' := by
  refine calls_at (n := 9) Try.func42 rfl rfl (by simp) ?_
  repeat (first | refine AtR_nil ?_ | refine s_mv ?_ | refine s_as ?_ | refine s_pt ?_ | refine s_pf ?_ | refine s_nt ?_ | refine s_ex ?_ | refine s_nc ?_ | refine s_fa ?_ | refine s_ld ?_ | refine s_ia ?_ | refine s_sl ?_ | refine s_ad ?_ | refine s_sb ?_ | refine s_ln ?_ | refine s_cv ?_ | refine s_lss ?_ | refine s_leq ?_ | refine s_gtr ?_ | refine s_geq ?_ | refine s_eql ?_ | refine s_neq ?_ | refine s_eqlf ?_ | refine s_eqlp ?_ | refine s_eqln ?_ | refine s_neqf ?_ | refine s_neqp ?_ | refine s_neqn ?_ | refine At_seq ?_ | refine At_region ?_ | refine AtR_nil ?_ | refine At_block ?_ | refine At_inBlock ?_ | refine At_skip ?_ | refine At_cond_t rfl ?_ | refine At_cond_f rfl ?_ | refine At_exit rfl ?_ | refine s_no rfl rfl rfl rfl ?_ | refine s_nou rfl rfl rfl ?_ | (refine s_yes rfl rfl rfl rfl ?_; first | refine g_mv ?_ | refine g_as ?_ | refine g_pt ?_ | refine g_pf ?_ | refine g_nt ?_ | refine g_ex ?_ | refine g_nc ?_ | refine g_fa ?_ | refine g_ld ?_ | refine g_ia ?_ | refine g_sl ?_ | refine g_ad ?_ | refine g_sb ?_ | refine g_ln ?_ | refine g_cv ?_ | refine g_lss ?_ | refine g_leq ?_ | refine g_gtr ?_ | refine g_geq ?_ | refine g_eql ?_ | refine g_neq ?_ | refine g_eqlf ?_ | refine g_eqlp ?_ | refine g_eqln ?_ | refine g_neqf ?_ | refine g_neqp ?_ | refine g_neqn ?_))
  refine s_call x_call (indexInt_calls xs v a len cap _ hs) ?_
  rintro _ _ ⟨⟨r, rfl, hr⟩, rfl⟩
  refine ⟨_, rfl, ?_⟩
  have hm := IxR_mem hr
  by_cases h0 : 0 ≤ r
  · repeat (first | refine AtR_nil ?_ | refine s_mv ?_ | refine s_as ?_ | refine s_pt ?_ | refine s_pf ?_ | refine s_nt ?_ | refine s_ex ?_ | refine s_nc ?_ | refine s_fa ?_ | refine s_ld ?_ | refine s_ia ?_ | refine s_sl ?_ | refine s_ad ?_ | refine s_sb ?_ | refine s_ln ?_ | refine s_cv ?_ | refine s_lss ?_ | refine s_leq ?_ | refine s_gtr ?_ | refine s_geq ?_ | refine s_eql ?_ | refine s_neq ?_ | refine s_eqlf ?_ | refine s_eqlp ?_ | refine s_eqln ?_ | refine s_neqf ?_ | refine s_neqp ?_ | refine s_neqn ?_ | refine At_seq ?_ | refine At_region ?_ | refine AtR_nil ?_ | refine At_block ?_ | refine At_inBlock ?_ | refine At_skip ?_ | refine At_cond_t rfl ?_ | refine At_cond_f rfl ?_ | refine At_exit rfl ?_ | refine s_no rfl rfl rfl rfl ?_ | refine s_nou rfl rfl rfl ?_ | (refine s_yes rfl rfl rfl rfl ?_; first | refine g_mv ?_ | refine g_as ?_ | refine g_pt ?_ | refine g_pf ?_ | refine g_nt ?_ | refine g_ex ?_ | refine g_nc ?_ | refine g_fa ?_ | refine g_ld ?_ | refine g_ia ?_ | refine g_sl ?_ | refine g_ad ?_ | refine g_sb ?_ | refine g_ln ?_ | refine g_cv ?_ | refine g_lss ?_ | refine g_leq ?_ | refine g_gtr ?_ | refine g_geq ?_ | refine g_eql ?_ | refine g_neq ?_ | refine g_eqlf ?_ | refine g_eqlp ?_ | refine g_eqln ?_ | refine g_neqf ?_ | refine g_neqp ?_ | refine g_neqn ?_))
    refine At_ret1 Try.func42 rfl (by conv => lhs; whnf) ?_
    exact ⟨by rw [decide_eq_true (hm.1 h0)], rfl⟩
  · repeat (first | refine AtR_nil ?_ | refine s_mv ?_ | refine s_as ?_ | refine s_pt ?_ | refine s_pf ?_ | refine s_nt ?_ | refine s_ex ?_ | refine s_nc ?_ | refine s_fa ?_ | refine s_ld ?_ | refine s_ia ?_ | refine s_sl ?_ | refine s_ad ?_ | refine s_sb ?_ | refine s_ln ?_ | refine s_cv ?_ | refine s_lss ?_ | refine s_leq ?_ | refine s_gtr ?_ | refine s_geq ?_ | refine s_eql ?_ | refine s_neq ?_ | refine s_eqlf ?_ | refine s_eqlp ?_ | refine s_eqln ?_ | refine s_neqf ?_ | refine s_neqp ?_ | refine s_neqn ?_ | refine At_seq ?_ | refine At_region ?_ | refine AtR_nil ?_ | refine At_block ?_ | refine At_inBlock ?_ | refine At_skip ?_ | refine At_cond_t rfl ?_ | refine At_cond_f rfl ?_ | refine At_exit rfl ?_ | refine s_no rfl rfl rfl rfl ?_ | refine s_nou rfl rfl rfl ?_ | (refine s_yes rfl rfl rfl rfl ?_; first | refine g_mv ?_ | refine g_as ?_ | refine g_pt ?_ | refine g_pf ?_ | refine g_nt ?_ | refine g_ex ?_ | refine g_nc ?_ | refine g_fa ?_ | refine g_ld ?_ | refine g_ia ?_ | refine g_sl ?_ | refine g_ad ?_ | refine g_sb ?_ | refine g_ln ?_ | refine g_cv ?_ | refine g_lss ?_ | refine g_leq ?_ | refine g_gtr ?_ | refine g_geq ?_ | refine g_eql ?_ | refine g_neq ?_ | refine g_eqlf ?_ | refine g_eqlp ?_ | refine g_eqln ?_ | refine g_neqf ?_ | refine g_neqp ?_ | refine g_neqn ?_))
    refine At_ret1 Try.func42 rfl (by conv => lhs; whnf) ?_
    exact ⟨by rw [decide_eq_false (fun h => h0 (hm.2 h))], rfl⟩

set_option maxRecDepth 100000 in
theorem new_no (first fin : Int) (w : World) (h : first < 0 ∨ fin ≤ first ∨ 65536 < fin) :
    Calls Try.prog 16 #[.int .i64 first, .int .i64 fin] w fun e w' => e = .returned (.tuple #[.pointer none, .int .i64 2]) ∧ w = w' := by
  refine calls_at (n := 24) Try.func16 rfl rfl (by simp) ?_
  by_cases h1 : first < 0
  · repeat (first | refine AtR_nil ?_ | refine s_mv ?_ | refine s_as ?_ | refine s_pt ?_ | refine s_pf ?_ | refine s_nt ?_ | refine s_ex ?_ | refine s_nc ?_ | refine s_fa ?_ | refine s_ld ?_ | refine s_ia ?_ | refine s_sl ?_ | refine s_ad ?_ | refine s_sb ?_ | refine s_ln ?_ | refine s_cv ?_ | refine s_lss ?_ | refine s_leq ?_ | refine s_gtr ?_ | refine s_geq ?_ | refine s_eql ?_ | refine s_neq ?_ | refine s_eqlf ?_ | refine s_eqlp ?_ | refine s_eqln ?_ | refine s_neqf ?_ | refine s_neqp ?_ | refine s_neqn ?_ | refine At_seq ?_ | refine At_region ?_ | refine AtR_nil ?_ | refine At_block ?_ | refine At_inBlock ?_ | refine At_skip ?_ | refine At_cond_t rfl ?_ | refine At_cond_f rfl ?_ | refine At_exit rfl ?_ | refine s_no rfl rfl rfl rfl ?_ | refine s_nou rfl rfl rfl ?_ | (refine s_yes rfl rfl rfl rfl ?_; first | refine g_mv ?_ | refine g_as ?_ | refine g_pt ?_ | refine g_pf ?_ | refine g_nt ?_ | refine g_ex ?_ | refine g_nc ?_ | refine g_fa ?_ | refine g_ld ?_ | refine g_ia ?_ | refine g_sl ?_ | refine g_ad ?_ | refine g_sb ?_ | refine g_ln ?_ | refine g_cv ?_ | refine g_lss ?_ | refine g_leq ?_ | refine g_gtr ?_ | refine g_geq ?_ | refine g_eql ?_ | refine g_neq ?_ | refine g_eqlf ?_ | refine g_eqlp ?_ | refine g_eqln ?_ | refine g_neqf ?_ | refine g_neqp ?_ | refine g_neqn ?_))
    refine At_ret2 Try.func16 rfl (by conv => lhs; whnf) (by conv => lhs; whnf) ?_
    exact ⟨rfl, rfl⟩
  · by_cases h2 : fin ≤ first
    · repeat (first | refine AtR_nil ?_ | refine s_mv ?_ | refine s_as ?_ | refine s_pt ?_ | refine s_pf ?_ | refine s_nt ?_ | refine s_ex ?_ | refine s_nc ?_ | refine s_fa ?_ | refine s_ld ?_ | refine s_ia ?_ | refine s_sl ?_ | refine s_ad ?_ | refine s_sb ?_ | refine s_ln ?_ | refine s_cv ?_ | refine s_lss ?_ | refine s_leq ?_ | refine s_gtr ?_ | refine s_geq ?_ | refine s_eql ?_ | refine s_neq ?_ | refine s_eqlf ?_ | refine s_eqlp ?_ | refine s_eqln ?_ | refine s_neqf ?_ | refine s_neqp ?_ | refine s_neqn ?_ | refine At_seq ?_ | refine At_region ?_ | refine AtR_nil ?_ | refine At_block ?_ | refine At_inBlock ?_ | refine At_skip ?_ | refine At_cond_t rfl ?_ | refine At_cond_f rfl ?_ | refine At_exit rfl ?_ | refine s_no rfl rfl rfl rfl ?_ | refine s_nou rfl rfl rfl ?_ | (refine s_yes rfl rfl rfl rfl ?_; first | refine g_mv ?_ | refine g_as ?_ | refine g_pt ?_ | refine g_pf ?_ | refine g_nt ?_ | refine g_ex ?_ | refine g_nc ?_ | refine g_fa ?_ | refine g_ld ?_ | refine g_ia ?_ | refine g_sl ?_ | refine g_ad ?_ | refine g_sb ?_ | refine g_ln ?_ | refine g_cv ?_ | refine g_lss ?_ | refine g_leq ?_ | refine g_gtr ?_ | refine g_geq ?_ | refine g_eql ?_ | refine g_neq ?_ | refine g_eqlf ?_ | refine g_eqlp ?_ | refine g_eqln ?_ | refine g_neqf ?_ | refine g_neqp ?_ | refine g_neqn ?_))
      refine At_ret2 Try.func16 rfl (by conv => lhs; whnf) (by conv => lhs; whnf) ?_
      exact ⟨rfl, rfl⟩
    · have h3 : 65536 < fin := by omega
      repeat (first | refine AtR_nil ?_ | refine s_mv ?_ | refine s_as ?_ | refine s_pt ?_ | refine s_pf ?_ | refine s_nt ?_ | refine s_ex ?_ | refine s_nc ?_ | refine s_fa ?_ | refine s_ld ?_ | refine s_ia ?_ | refine s_sl ?_ | refine s_ad ?_ | refine s_sb ?_ | refine s_ln ?_ | refine s_cv ?_ | refine s_lss ?_ | refine s_leq ?_ | refine s_gtr ?_ | refine s_geq ?_ | refine s_eql ?_ | refine s_neq ?_ | refine s_eqlf ?_ | refine s_eqlp ?_ | refine s_eqln ?_ | refine s_neqf ?_ | refine s_neqp ?_ | refine s_neqn ?_ | refine At_seq ?_ | refine At_region ?_ | refine AtR_nil ?_ | refine At_block ?_ | refine At_inBlock ?_ | refine At_skip ?_ | refine At_cond_t rfl ?_ | refine At_cond_f rfl ?_ | refine At_exit rfl ?_ | refine s_no rfl rfl rfl rfl ?_ | refine s_nou rfl rfl rfl ?_ | (refine s_yes rfl rfl rfl rfl ?_; first | refine g_mv ?_ | refine g_as ?_ | refine g_pt ?_ | refine g_pf ?_ | refine g_nt ?_ | refine g_ex ?_ | refine g_nc ?_ | refine g_fa ?_ | refine g_ld ?_ | refine g_ia ?_ | refine g_sl ?_ | refine g_ad ?_ | refine g_sb ?_ | refine g_ln ?_ | refine g_cv ?_ | refine g_lss ?_ | refine g_leq ?_ | refine g_gtr ?_ | refine g_geq ?_ | refine g_eql ?_ | refine g_neq ?_ | refine g_eqlf ?_ | refine g_eqlp ?_ | refine g_eqln ?_ | refine g_neqf ?_ | refine g_neqp ?_ | refine g_neqn ?_))
      refine At_ret2 Try.func16 rfl (by conv => lhs; whnf) (by conv => lhs; whnf) ?_
      exact ⟨rfl, rfl⟩
theorem space_built (first : Int) (q m c : Nat) : Try.prog.built 73 [(0, .int .i64 first), (1, .slice (some ⟨q, 0, none⟩) m c)] = some [.int .i64 first, .slice (some ⟨q, 0, none⟩) m c].toArray := by kernel_rfl
/-- A new space. -/
def NewPost (first fin : Int) (w : World) (e : Ending) (w' : World) : Prop :=
  ∃ p q, e = .returned (.tuple #[.pointer (some ⟨p, 0, none⟩), .int .i64 0]) ∧ SpaceAt w' p q first (List.replicate (fin - first).toNat 0) ∧ w.heap.size ≤ p ∧ w.heap.size ≤ q ∧ p < w'.heap.size ∧ q < w'.heap.size ∧ Kp No w w'
set_option maxRecDepth 100000 in
theorem new_calls (first fin : Int) (w : World) (h1 : 0 ≤ first) (h2 : first < fin) (h3 : fin ≤ 65536) :
    Calls Try.prog 16 #[.int .i64 first, .int .i64 fin] w (NewPost first fin w) := by
  refine calls_at (n := 24) Try.func16 rfl rfl (by simp) ?_

  repeat (first | refine AtR_nil ?_ | refine s_mv ?_ | refine s_as ?_ | refine s_pt ?_ | refine s_pf ?_ | refine s_nt ?_ | refine s_ex ?_ | refine s_nc ?_ | refine s_fa ?_ | refine s_ld ?_ | refine s_ia ?_ | refine s_sl ?_ | refine s_ad ?_ | refine s_sb ?_ | refine s_ln ?_ | refine s_cv ?_ | refine s_lss ?_ | refine s_leq ?_ | refine s_gtr ?_ | refine s_geq ?_ | refine s_eql ?_ | refine s_neq ?_ | refine s_eqlf ?_ | refine s_eqlp ?_ | refine s_eqln ?_ | refine s_neqf ?_ | refine s_neqp ?_ | refine s_neqn ?_ | refine At_seq ?_ | refine At_region ?_ | refine AtR_nil ?_ | refine At_block ?_ | refine At_inBlock ?_ | refine At_skip ?_ | refine At_cond_t rfl ?_ | refine At_cond_f rfl ?_ | refine At_exit rfl ?_ | refine s_no rfl rfl rfl rfl ?_ | refine s_nou rfl rfl rfl ?_ | (refine s_yes rfl rfl rfl rfl ?_; first | refine g_mv ?_ | refine g_as ?_ | refine g_pt ?_ | refine g_pf ?_ | refine g_nt ?_ | refine g_ex ?_ | refine g_nc ?_ | refine g_fa ?_ | refine g_ld ?_ | refine g_ia ?_ | refine g_sl ?_ | refine g_ad ?_ | refine g_sb ?_ | refine g_ln ?_ | refine g_cv ?_ | refine g_lss ?_ | refine g_leq ?_ | refine g_gtr ?_ | refine g_geq ?_ | refine g_eql ?_ | refine g_neq ?_ | refine g_eqlf ?_ | refine g_eqlp ?_ | refine g_eqln ?_ | refine g_neqf ?_ | refine g_neqp ?_ | refine g_neqn ?_))
  refine AtR_go rfl (AtG_make1 (z := .int .i64 0) rfl rfl (by omega) (by omega) rfl (by omega) (by omega) fun q w1 hq e1 => ?_)
  have z1 := e1.size; have s1 := e1.lt
  have Bq : Blk w1 q 75 (0, 0) (ints .i64 (List.replicate (fin - first).toNat 0)) := by rw [ints, List.map_replicate]; exact e1.here
  have K1 : Kp No w w1 := e1.kp (by first | (right; omega) | (left; first | assumption | rfl | simp))
  clear e1
  refine s_val (x_build (by first | rfl | exact rfl) (space_built first q _ _)) ?_
  refine AtR_go rfl (AtG_box rfl fun p w2 hp e2 => ?_)
  have z2 := e2.size; have s2 := e2.lt
  replace Bq := Bq.eff e2 (by omega)
  have Bp : Blk w2 p 73 (0, 0) ([.int .i64 first, .slice (some ⟨q, 0, none⟩) (fin - first).toNat (fin - first).toNat]) := e2.here
  have K2 : Kp No w w2 := K1.trans' (e2.kp (S := fun j => j = p) (.inl rfl)) (by rintro j rfl; first | (right; omega) | (left; first | assumption | rfl | simp))
  clear e2 K1
  repeat (first | refine AtR_nil ?_ | refine s_mv ?_ | refine s_as ?_ | refine s_pt ?_ | refine s_pf ?_ | refine s_nt ?_ | refine s_ex ?_ | refine s_nc ?_ | refine s_fa ?_ | refine s_ld ?_ | refine s_ia ?_ | refine s_sl ?_ | refine s_ad ?_ | refine s_sb ?_ | refine s_ln ?_ | refine s_cv ?_ | refine s_lss ?_ | refine s_leq ?_ | refine s_gtr ?_ | refine s_geq ?_ | refine s_eql ?_ | refine s_neq ?_ | refine s_eqlf ?_ | refine s_eqlp ?_ | refine s_eqln ?_ | refine s_neqf ?_ | refine s_neqp ?_ | refine s_neqn ?_ | refine At_seq ?_ | refine At_region ?_ | refine AtR_nil ?_ | refine At_block ?_ | refine At_inBlock ?_ | refine At_skip ?_ | refine At_cond_t rfl ?_ | refine At_cond_f rfl ?_ | refine At_exit rfl ?_ | refine s_no rfl rfl rfl rfl ?_ | refine s_nou rfl rfl rfl ?_ | (refine s_yes rfl rfl rfl rfl ?_; first | refine g_mv ?_ | refine g_as ?_ | refine g_pt ?_ | refine g_pf ?_ | refine g_nt ?_ | refine g_ex ?_ | refine g_nc ?_ | refine g_fa ?_ | refine g_ld ?_ | refine g_ia ?_ | refine g_sl ?_ | refine g_ad ?_ | refine g_sb ?_ | refine g_ln ?_ | refine g_cv ?_ | refine g_lss ?_ | refine g_leq ?_ | refine g_gtr ?_ | refine g_geq ?_ | refine g_eql ?_ | refine g_neq ?_ | refine g_eqlf ?_ | refine g_eqlp ?_ | refine g_eqln ?_ | refine g_neqf ?_ | refine g_neqp ?_ | refine g_neqn ?_))
  refine At_ret2 Try.func16 rfl (by conv => lhs; whnf) (by conv => lhs; whnf) ?_
  refine ⟨p, q, rfl, ⟨?_, Bq, by omega, h1, ?_⟩, by omega, by omega, by omega, by omega, by assumption⟩
  · rw [List.length_replicate]; exact Bp
  · rw [List.length_replicate]; omega

def TakePost (p q : Nat) (first : Int) (st : List Int) (w : World) (e : Ending) (w' : World) : Prop :=
  (e = .returned (.tuple #[.int .i64 0, .int .i64 12]) ∧ w = w' ∧ ∀ j, j < st.length → 0 ≠ st.getD j 0) ∨
  ∃ k : Nat, e = .returned (.tuple #[.int .i64 (first + k), .int .i64 0]) ∧ k < st.length ∧ st.getD k 0 = 0 ∧ (∀ j, j < k → 0 ≠ st.getD j 0) ∧ SpaceAt w' p q first (st.set k 1) ∧ Kp (fun j => j = q) w w'
set_option maxRecDepth 100000 in
theorem take_calls (p q : Nat) (first : Int) (st : List Int) (w : World) (h : SpaceAt w p q first st) :
    Calls Try.prog 17 #[.pointer (some ⟨p, 0, none⟩)] w (TakePost p q first st w) := by
  have lo := h.lo
  have hi := h.hi
  have Bp := h.head
  have Bq := h.row
  have hne := h.ne
  refine calls_at (n := 24) Try.func17 rfl rfl (by simp) ?_
  repeat (first | refine AtR_nil ?_ | refine s_mv ?_ | refine s_as ?_ | refine s_pt ?_ | refine s_pf ?_ | refine s_nt ?_ | refine s_ex ?_ | refine s_nc ?_ | refine s_fa ?_ | refine s_ld ?_ | refine s_ia ?_ | refine s_sl ?_ | refine s_ad ?_ | refine s_sb ?_ | refine s_ln ?_ | refine s_cv ?_ | refine s_lss ?_ | refine s_leq ?_ | refine s_gtr ?_ | refine s_geq ?_ | refine s_eql ?_ | refine s_neq ?_ | refine s_eqlf ?_ | refine s_eqlp ?_ | refine s_eqln ?_ | refine s_neqf ?_ | refine s_neqp ?_ | refine s_neqn ?_ | refine At_seq ?_ | refine At_region ?_ | refine AtR_nil ?_ | refine At_block ?_ | refine At_inBlock ?_ | refine At_skip ?_ | refine At_cond_t rfl ?_ | refine At_cond_f rfl ?_ | refine At_exit rfl ?_ | refine s_no rfl rfl rfl rfl ?_ | refine s_nou rfl rfl rfl ?_ | (refine s_yes rfl rfl rfl rfl ?_; first | refine g_mv ?_ | refine g_as ?_ | refine g_pt ?_ | refine g_pf ?_ | refine g_nt ?_ | refine g_ex ?_ | refine g_nc ?_ | refine g_fa ?_ | refine g_ld ?_ | refine g_ia ?_ | refine g_sl ?_ | refine g_ad ?_ | refine g_sb ?_ | refine g_ln ?_ | refine g_cv ?_ | refine g_lss ?_ | refine g_leq ?_ | refine g_gtr ?_ | refine g_geq ?_ | refine g_eql ?_ | refine g_neq ?_ | refine g_eqlf ?_ | refine g_eqlp ?_ | refine g_eqln ?_ | refine g_neqf ?_ | refine g_neqp ?_ | refine g_neqn ?_))
  refine s_call x_call (indexState_calls st 0 _ _ _ _ (Bq.sl rfl (by omega))) ?_
  rintro _ _ ⟨⟨r, rfl, hr⟩, rfl⟩
  refine ⟨_, rfl, ?_⟩
  rcases hr with ⟨rfl, hno⟩ | ⟨k, rfl, hk, hv, hbe⟩
  · repeat (first | refine AtR_nil ?_ | refine s_mv ?_ | refine s_as ?_ | refine s_pt ?_ | refine s_pf ?_ | refine s_nt ?_ | refine s_ex ?_ | refine s_nc ?_ | refine s_fa ?_ | refine s_ld ?_ | refine s_ia ?_ | refine s_sl ?_ | refine s_ad ?_ | refine s_sb ?_ | refine s_ln ?_ | refine s_cv ?_ | refine s_lss ?_ | refine s_leq ?_ | refine s_gtr ?_ | refine s_geq ?_ | refine s_eql ?_ | refine s_neq ?_ | refine s_eqlf ?_ | refine s_eqlp ?_ | refine s_eqln ?_ | refine s_neqf ?_ | refine s_neqp ?_ | refine s_neqn ?_ | refine At_seq ?_ | refine At_region ?_ | refine AtR_nil ?_ | refine At_block ?_ | refine At_inBlock ?_ | refine At_skip ?_ | refine At_cond_t rfl ?_ | refine At_cond_f rfl ?_ | refine At_exit rfl ?_ | refine s_no rfl rfl rfl rfl ?_ | refine s_nou rfl rfl rfl ?_ | (refine s_yes rfl rfl rfl rfl ?_; first | refine g_mv ?_ | refine g_as ?_ | refine g_pt ?_ | refine g_pf ?_ | refine g_nt ?_ | refine g_ex ?_ | refine g_nc ?_ | refine g_fa ?_ | refine g_ld ?_ | refine g_ia ?_ | refine g_sl ?_ | refine g_ad ?_ | refine g_sb ?_ | refine g_ln ?_ | refine g_cv ?_ | refine g_lss ?_ | refine g_leq ?_ | refine g_gtr ?_ | refine g_geq ?_ | refine g_eql ?_ | refine g_neq ?_ | refine g_eqlf ?_ | refine g_eqlp ?_ | refine g_eqln ?_ | refine g_neqf ?_ | refine g_neqp ?_ | refine g_neqn ?_))
    refine At_ret2 Try.func17 rfl (by conv => lhs; whnf) (by conv => lhs; whnf) ?_
    exact .inl ⟨rfl, rfl, hno⟩
  · repeat (first | refine AtR_nil ?_ | refine s_mv ?_ | refine s_as ?_ | refine s_pt ?_ | refine s_pf ?_ | refine s_nt ?_ | refine s_ex ?_ | refine s_nc ?_ | refine s_fa ?_ | refine s_ld ?_ | refine s_ia ?_ | refine s_sl ?_ | refine s_ad ?_ | refine s_sb ?_ | refine s_ln ?_ | refine s_cv ?_ | refine s_lss ?_ | refine s_leq ?_ | refine s_gtr ?_ | refine s_geq ?_ | refine s_eql ?_ | refine s_neq ?_ | refine s_eqlf ?_ | refine s_eqlp ?_ | refine s_eqln ?_ | refine s_neqf ?_ | refine s_neqp ?_ | refine s_neqn ?_ | refine At_seq ?_ | refine At_region ?_ | refine AtR_nil ?_ | refine At_block ?_ | refine At_inBlock ?_ | refine At_skip ?_ | refine At_cond_t rfl ?_ | refine At_cond_f rfl ?_ | refine At_exit rfl ?_ | refine s_no rfl rfl rfl rfl ?_ | refine s_nou rfl rfl rfl ?_ | (refine s_yes rfl rfl rfl rfl ?_; first | refine g_mv ?_ | refine g_as ?_ | refine g_pt ?_ | refine g_pf ?_ | refine g_nt ?_ | refine g_ex ?_ | refine g_nc ?_ | refine g_fa ?_ | refine g_ld ?_ | refine g_ia ?_ | refine g_sl ?_ | refine g_ad ?_ | refine g_sb ?_ | refine g_ln ?_ | refine g_cv ?_ | refine g_lss ?_ | refine g_leq ?_ | refine g_gtr ?_ | refine g_geq ?_ | refine g_eql ?_ | refine g_neq ?_ | refine g_eqlf ?_ | refine g_eqlp ?_ | refine g_eqln ?_ | refine g_neqf ?_ | refine g_neqp ?_ | refine g_neqn ?_))
    refine AtR_go rfl (G_skip (r_store_bints rfl rfl Bq hk rfl) fun w1 e1 => ?_)
    have Bq1 := e1.blk
    have Bp1 := Bp.eff e1 hne
    repeat (first | refine AtR_nil ?_ | refine s_mv ?_ | refine s_as ?_ | refine s_pt ?_ | refine s_pf ?_ | refine s_nt ?_ | refine s_ex ?_ | refine s_nc ?_ | refine s_fa ?_ | refine s_ld ?_ | refine s_ia ?_ | refine s_sl ?_ | refine s_ad ?_ | refine s_sb ?_ | refine s_ln ?_ | refine s_cv ?_ | refine s_lss ?_ | refine s_leq ?_ | refine s_gtr ?_ | refine s_geq ?_ | refine s_eql ?_ | refine s_neq ?_ | refine s_eqlf ?_ | refine s_eqlp ?_ | refine s_eqln ?_ | refine s_neqf ?_ | refine s_neqp ?_ | refine s_neqn ?_ | refine At_seq ?_ | refine At_region ?_ | refine AtR_nil ?_ | refine At_block ?_ | refine At_inBlock ?_ | refine At_skip ?_ | refine At_cond_t rfl ?_ | refine At_cond_f rfl ?_ | refine At_exit rfl ?_ | refine s_no rfl rfl rfl rfl ?_ | refine s_nou rfl rfl rfl ?_ | (refine s_yes rfl rfl rfl rfl ?_; first | refine g_mv ?_ | refine g_as ?_ | refine g_pt ?_ | refine g_pf ?_ | refine g_nt ?_ | refine g_ex ?_ | refine g_nc ?_ | refine g_fa ?_ | refine g_ld ?_ | refine g_ia ?_ | refine g_sl ?_ | refine g_ad ?_ | refine g_sb ?_ | refine g_ln ?_ | refine g_cv ?_ | refine g_lss ?_ | refine g_leq ?_ | refine g_gtr ?_ | refine g_geq ?_ | refine g_eql ?_ | refine g_neq ?_ | refine g_eqlf ?_ | refine g_eqlp ?_ | refine g_eqln ?_ | refine g_neqf ?_ | refine g_neqp ?_ | refine g_neqn ?_))
    refine At_ret2 Try.func17 rfl (by conv => lhs; whnf) (by conv => lhs; whnf) ?_
    refine .inr ⟨k, rfl, hk, hv.symm, hbe, ⟨?_, Bq1, hne, lo, ?_⟩, e1.kp (.inl rfl)⟩
    · rw [List.length_set]; exact Bp1
    · rw [List.length_set]; exact hi

end Go.Proofs.Ytogfkmejgjodaaa
