/- What the law SpaceUndo needs: the calls Undo and Ints, and the plain law. -/
import Derived.Test.YtogfkmejgjodaaaSf
import Derived.Test.YtogfkmejgjodaaaKj
set_option linter.unusedVariables false
namespace Go.Proofs.Ytogfkmejgjodaaa
open Go Go.Kx
/-- Each of xs that is used is free. -/
noncomputable def backAll (first : Int) (xs st : List Int) : List Int := xs.foldl (fun s n => (trn first 1 0 [n] s).1) st
theorem backAll_snoc (first : Int) (xs st : List Int) (k : Nat) (hk : k < xs.length) : backAll first (xs.take (k + 1)) st = (trn first 1 0 [xs.getD k 0] (backAll first (xs.take k) st)).1 := by
  rw [List.take_succ_eq_append_getElem hk, getD_lt hk]
  simp only [backAll, List.foldl_append, List.foldl_cons, List.foldl_nil]
set_option maxRecDepth 100000 in
set_option maxHeartbeats 1000000 in
theorem undo_u (p q : Nat) (first : Int) (st : List Int) (a : Option Addr) (len cap : Nat) (xs : List Int) (w : World) (h : SpaceAt w p q first st) (hs : SlE w .i64 a len cap xs (fun b => b ≠ q))
    (hb : ∀ x ∈ xs, -9223372036854775808 ≤ x ∧ x ≤ 9223372036854775807) :
    Calls Try.prog 24 #[.pointer (some ⟨p, 0, none⟩), .slice a len cap] w
      fun e w' => e = .returned (.tuple #[]) ∧ SpaceAt w' p q first (allOf 2 1 (backAll first xs st)) ∧ Kp (fun j => j = q) w w' := by
  have hl := hs.len_eq
  have hm := hs.max
  have hc := hs.le
  refine calls_at (n := 19) Try.func24 rfl rfl (by simp) ?_
  repeat (first | refine AtR_nil ?_ | refine s_mv ?_ | refine s_as ?_ | refine s_pt ?_ | refine s_pf ?_ | refine s_nt ?_ | refine s_ex ?_ | refine s_nc ?_ | refine s_fa ?_ | refine s_ld ?_ | refine s_ia ?_ | refine s_sl ?_ | refine s_ad ?_ | refine s_sb ?_ | refine s_ln ?_ | refine s_cv ?_ | refine s_lss ?_ | refine s_leq ?_ | refine s_gtr ?_ | refine s_geq ?_ | refine s_eql ?_ | refine s_neq ?_ | refine s_eqlf ?_ | refine s_eqlp ?_ | refine s_eqln ?_ | refine s_neqf ?_ | refine s_neqp ?_ | refine s_neqn ?_ | refine At_seq ?_ | refine At_region ?_ | refine AtR_nil ?_ | refine At_block ?_ | refine At_inBlock ?_ | refine At_skip ?_ | refine At_cond_t rfl ?_ | refine At_cond_f rfl ?_ | refine At_exit rfl ?_ | refine s_no rfl rfl rfl rfl ?_ | refine s_nou rfl rfl rfl ?_ | (refine s_yes rfl rfl rfl rfl ?_; first | refine g_mv ?_ | refine g_as ?_ | refine g_pt ?_ | refine g_pf ?_ | refine g_nt ?_ | refine g_ex ?_ | refine g_nc ?_ | refine g_fa ?_ | refine g_ld ?_ | refine g_ia ?_ | refine g_sl ?_ | refine g_ad ?_ | refine g_sb ?_ | refine g_ln ?_ | refine g_cv ?_ | refine g_lss ?_ | refine g_leq ?_ | refine g_gtr ?_ | refine g_geq ?_ | refine g_eql ?_ | refine g_neq ?_ | refine g_eqlf ?_ | refine g_eqlp ?_ | refine g_eqln ?_ | refine g_neqf ?_ | refine g_neqp ?_ | refine g_neqn ?_))
  refine At_while (fun k : Nat => [(0, .pointer (some ⟨p, 0, none⟩)), (6, .slice a len cap), (7, .int .i64 len), (8, .int .i64 k)])
    (fun k w' => k ≤ len ∧ SpaceAt w' p q first (backAll first (xs.take k) st) ∧ Kp (fun j => j = q) w w') (fun k => len - k) 0 ⟨rfl, rfl, rfl, rfl, trivial⟩
    ⟨by omega, by simpa [backAll] using h, Kp.refl _ _⟩ ?_
  clear h
  rintro k w1 junk ⟨hk, Hs, K⟩ again
  by_cases hlt : k < len
  · have hs1 := hs.kp K (fun b hb e => hb e)
    rcases hs1.mem with h00 | ⟨b0, off, rfl, hbl, _, hsg⟩
    · omega
    have hbk : -9223372036854775808 ≤ xs.getD k 0 ∧ xs.getD k 0 ≤ 9223372036854775807 := by rw [getD_lt (by omega)]; exact hb _ (List.getElem_mem (by omega))
    repeat (first | refine AtR_nil ?_ | refine s_mv ?_ | refine s_as ?_ | refine s_pt ?_ | refine s_pf ?_ | refine s_nt ?_ | refine s_ex ?_ | refine s_nc ?_ | refine s_fa ?_ | refine s_ld ?_ | refine s_ia ?_ | refine s_sl ?_ | refine s_ad ?_ | refine s_sb ?_ | refine s_ln ?_ | refine s_cv ?_ | refine s_lss ?_ | refine s_leq ?_ | refine s_gtr ?_ | refine s_geq ?_ | refine s_eql ?_ | refine s_neq ?_ | refine s_eqlf ?_ | refine s_eqlp ?_ | refine s_eqln ?_ | refine s_neqf ?_ | refine s_neqp ?_ | refine s_neqn ?_ | refine At_seq ?_ | refine At_region ?_ | refine AtR_nil ?_ | refine At_block ?_ | refine At_inBlock ?_ | refine At_skip ?_ | refine At_cond_t rfl ?_ | refine At_cond_f rfl ?_ | refine At_exit rfl ?_ | refine s_no rfl rfl rfl rfl ?_ | refine s_nou rfl rfl rfl ?_ | (refine s_yes rfl rfl rfl rfl ?_; first | refine g_mv ?_ | refine g_as ?_ | refine g_pt ?_ | refine g_pf ?_ | refine g_nt ?_ | refine g_ex ?_ | refine g_nc ?_ | refine g_fa ?_ | refine g_ld ?_ | refine g_ia ?_ | refine g_sl ?_ | refine g_ad ?_ | refine g_sb ?_ | refine g_ln ?_ | refine g_cv ?_ | refine g_lss ?_ | refine g_leq ?_ | refine g_gtr ?_ | refine g_geq ?_ | refine g_eql ?_ | refine g_neq ?_ | refine g_eqlf ?_ | refine g_eqlp ?_ | refine g_eqln ?_ | refine g_neqf ?_ | refine g_neqp ?_ | refine g_neqn ?_))
    refine AtR_go rfl (AtG_buildSlice1 (ops := [_]) rfl rfl (by omega) rfl rfl rfl fun b w1 hb e1 => ?_)
    have Bx : Blk w1 b 3 (0, 0) (ints .i64 [xs.getD k 0]) := e1.blk
    have hbq : b ≠ q := by have := Hs.row.lt; omega
    replace Hs := Hs.kpn (e1.kp (.inr (by omega))); replace K := K.trans (e1.kp (.inr (by omega))); clear e1 hb
    repeat (first | refine AtR_nil ?_ | refine s_mv ?_ | refine s_as ?_ | refine s_pt ?_ | refine s_pf ?_ | refine s_nt ?_ | refine s_ex ?_ | refine s_nc ?_ | refine s_fa ?_ | refine s_ld ?_ | refine s_ia ?_ | refine s_sl ?_ | refine s_ad ?_ | refine s_sb ?_ | refine s_ln ?_ | refine s_cv ?_ | refine s_lss ?_ | refine s_leq ?_ | refine s_gtr ?_ | refine s_geq ?_ | refine s_eql ?_ | refine s_neq ?_ | refine s_eqlf ?_ | refine s_eqlp ?_ | refine s_eqln ?_ | refine s_neqf ?_ | refine s_neqp ?_ | refine s_neqn ?_ | refine At_seq ?_ | refine At_region ?_ | refine AtR_nil ?_ | refine At_block ?_ | refine At_inBlock ?_ | refine At_skip ?_ | refine At_cond_t rfl ?_ | refine At_cond_f rfl ?_ | refine At_exit rfl ?_ | refine s_no rfl rfl rfl rfl ?_ | refine s_nou rfl rfl rfl ?_ | (refine s_yes rfl rfl rfl rfl ?_; first | refine g_mv ?_ | refine g_as ?_ | refine g_pt ?_ | refine g_pf ?_ | refine g_nt ?_ | refine g_ex ?_ | refine g_nc ?_ | refine g_fa ?_ | refine g_ld ?_ | refine g_ia ?_ | refine g_sl ?_ | refine g_ad ?_ | refine g_sb ?_ | refine g_ln ?_ | refine g_cv ?_ | refine g_lss ?_ | refine g_leq ?_ | refine g_gtr ?_ | refine g_geq ?_ | refine g_eql ?_ | refine g_neq ?_ | refine g_eqlf ?_ | refine g_eqlp ?_ | refine g_eqln ?_ | refine g_neqf ?_ | refine g_neqp ?_ | refine g_neqn ?_))
    refine s_call x_call (turn_e (st' := (trn first 1 0 [xs.getD k 0] (backAll first (xs.take k) st)).1) (c := (trn first 1 0 [xs.getD k 0] (backAll first (xs.take k) st)).2) rfl Bx hbq hbk.1 hbk.2 Hs) ?_
    rintro _ w2 ⟨rfl, H2, k2⟩; refine ⟨_, rfl, ?_⟩; replace K := K.trans k2; clear Hs k2; have Hs := H2; clear H2
    rw [← backAll_snoc _ _ _ _ (by omega)] at Hs
    repeat (first | refine AtR_nil ?_ | refine s_mv ?_ | refine s_as ?_ | refine s_pt ?_ | refine s_pf ?_ | refine s_nt ?_ | refine s_ex ?_ | refine s_nc ?_ | refine s_fa ?_ | refine s_ld ?_ | refine s_ia ?_ | refine s_sl ?_ | refine s_ad ?_ | refine s_sb ?_ | refine s_ln ?_ | refine s_cv ?_ | refine s_lss ?_ | refine s_leq ?_ | refine s_gtr ?_ | refine s_geq ?_ | refine s_eql ?_ | refine s_neq ?_ | refine s_eqlf ?_ | refine s_eqlp ?_ | refine s_eqln ?_ | refine s_neqf ?_ | refine s_neqp ?_ | refine s_neqn ?_ | refine At_seq ?_ | refine At_region ?_ | refine AtR_nil ?_ | refine At_block ?_ | refine At_inBlock ?_ | refine At_skip ?_ | refine At_cond_t rfl ?_ | refine At_cond_f rfl ?_ | refine At_exit rfl ?_ | refine s_no rfl rfl rfl rfl ?_ | refine s_nou rfl rfl rfl ?_ | (refine s_yes rfl rfl rfl rfl ?_; first | refine g_mv ?_ | refine g_as ?_ | refine g_pt ?_ | refine g_pf ?_ | refine g_nt ?_ | refine g_ex ?_ | refine g_nc ?_ | refine g_fa ?_ | refine g_ld ?_ | refine g_ia ?_ | refine g_sl ?_ | refine g_ad ?_ | refine g_sb ?_ | refine g_ln ?_ | refine g_cv ?_ | refine g_lss ?_ | refine g_leq ?_ | refine g_gtr ?_ | refine g_geq ?_ | refine g_eql ?_ | refine g_neq ?_ | refine g_eqlf ?_ | refine g_eqlp ?_ | refine g_eqln ?_ | refine g_neqf ?_ | refine g_neqp ?_ | refine g_neqn ?_))
    exact again (k + 1) _ _ ⟨rfl, rfl, rfl, rfl, trivial⟩ ⟨hlt, Hs, K⟩ (by omega)
  · rw [List.take_of_length_le (by omega)] at Hs
    clear again
    repeat (first | refine AtR_nil ?_ | refine s_mv ?_ | refine s_as ?_ | refine s_pt ?_ | refine s_pf ?_ | refine s_nt ?_ | refine s_ex ?_ | refine s_nc ?_ | refine s_fa ?_ | refine s_ld ?_ | refine s_ia ?_ | refine s_sl ?_ | refine s_ad ?_ | refine s_sb ?_ | refine s_ln ?_ | refine s_cv ?_ | refine s_lss ?_ | refine s_leq ?_ | refine s_gtr ?_ | refine s_geq ?_ | refine s_eql ?_ | refine s_neq ?_ | refine s_eqlf ?_ | refine s_eqlp ?_ | refine s_eqln ?_ | refine s_neqf ?_ | refine s_neqp ?_ | refine s_neqn ?_ | refine At_seq ?_ | refine At_region ?_ | refine AtR_nil ?_ | refine At_block ?_ | refine At_inBlock ?_ | refine At_skip ?_ | refine At_cond_t rfl ?_ | refine At_cond_f rfl ?_ | refine At_exit rfl ?_ | refine s_no rfl rfl rfl rfl ?_ | refine s_nou rfl rfl rfl ?_ | (refine s_yes rfl rfl rfl rfl ?_; first | refine g_mv ?_ | refine g_as ?_ | refine g_pt ?_ | refine g_pf ?_ | refine g_nt ?_ | refine g_ex ?_ | refine g_nc ?_ | refine g_fa ?_ | refine g_ld ?_ | refine g_ia ?_ | refine g_sl ?_ | refine g_ad ?_ | refine g_sb ?_ | refine g_ln ?_ | refine g_cv ?_ | refine g_lss ?_ | refine g_leq ?_ | refine g_gtr ?_ | refine g_geq ?_ | refine g_eql ?_ | refine g_neq ?_ | refine g_eqlf ?_ | refine g_eqlp ?_ | refine g_eqln ?_ | refine g_neqf ?_ | refine g_neqp ?_ | refine g_neqn ?_))
    refine s_call x_call (all_u p q first _ 2 1 _ Hs) ?_
    rintro _ w3 ⟨rfl, H3, k3⟩; refine ⟨_, rfl, ?_⟩; replace K := K.trans k3; clear Hs k3; have Hs := H3; clear H3
    repeat (first | refine AtR_nil ?_ | refine s_mv ?_ | refine s_as ?_ | refine s_pt ?_ | refine s_pf ?_ | refine s_nt ?_ | refine s_ex ?_ | refine s_nc ?_ | refine s_fa ?_ | refine s_ld ?_ | refine s_ia ?_ | refine s_sl ?_ | refine s_ad ?_ | refine s_sb ?_ | refine s_ln ?_ | refine s_cv ?_ | refine s_lss ?_ | refine s_leq ?_ | refine s_gtr ?_ | refine s_geq ?_ | refine s_eql ?_ | refine s_neq ?_ | refine s_eqlf ?_ | refine s_eqlp ?_ | refine s_eqln ?_ | refine s_neqf ?_ | refine s_neqp ?_ | refine s_neqn ?_ | refine At_seq ?_ | refine At_region ?_ | refine AtR_nil ?_ | refine At_block ?_ | refine At_inBlock ?_ | refine At_skip ?_ | refine At_cond_t rfl ?_ | refine At_cond_f rfl ?_ | refine At_exit rfl ?_ | refine s_no rfl rfl rfl rfl ?_ | refine s_nou rfl rfl rfl ?_ | (refine s_yes rfl rfl rfl rfl ?_; first | refine g_mv ?_ | refine g_as ?_ | refine g_pt ?_ | refine g_pf ?_ | refine g_nt ?_ | refine g_ex ?_ | refine g_nc ?_ | refine g_fa ?_ | refine g_ld ?_ | refine g_ia ?_ | refine g_sl ?_ | refine g_ad ?_ | refine g_sb ?_ | refine g_ln ?_ | refine g_cv ?_ | refine g_lss ?_ | refine g_leq ?_ | refine g_gtr ?_ | refine g_geq ?_ | refine g_eql ?_ | refine g_neq ?_ | refine g_eqlf ?_ | refine g_eqlp ?_ | refine g_eqln ?_ | refine g_neqf ?_ | refine g_neqp ?_ | refine g_neqn ?_))
    exact At_end0 Try.func24 rfl ⟨rfl, Hs, K⟩
set_option maxRecDepth 100000 in
set_option maxHeartbeats 1000000 in
theorem ints_u (a a' : Option Addr) (len cap cap' : Nat) (xs : List Int) (w : World) (hs : Sl w .i64 a len cap xs) (hs' : Sl w .i64 a' len cap' xs) :
    Calls Try.prog 25 #[.slice a len cap, .slice a' len cap'] w fun e w' => e = .returned (.bool true) ∧ Kp No w w' := by
  have hl := hs.len_eq
  have hm := hs.max
  have hc := hs.le
  refine calls_at (n := 26) Try.func25 rfl rfl (by simp) ?_
  repeat (first | refine AtR_nil ?_ | refine s_mv ?_ | refine s_as ?_ | refine s_pt ?_ | refine s_pf ?_ | refine s_nt ?_ | refine s_ex ?_ | refine s_nc ?_ | refine s_fa ?_ | refine s_ld ?_ | refine s_ia ?_ | refine s_sl ?_ | refine s_ad ?_ | refine s_sb ?_ | refine s_ln ?_ | refine s_cv ?_ | refine s_lss ?_ | refine s_leq ?_ | refine s_gtr ?_ | refine s_geq ?_ | refine s_eql ?_ | refine s_neq ?_ | refine s_eqlf ?_ | refine s_eqlp ?_ | refine s_eqln ?_ | refine s_neqf ?_ | refine s_neqp ?_ | refine s_neqn ?_ | refine At_seq ?_ | refine At_region ?_ | refine AtR_nil ?_ | refine At_block ?_ | refine At_inBlock ?_ | refine At_skip ?_ | refine At_cond_t rfl ?_ | refine At_cond_f rfl ?_ | refine At_exit rfl ?_ | refine s_no rfl rfl rfl rfl ?_ | refine s_nou rfl rfl rfl ?_ | (refine s_yes rfl rfl rfl rfl ?_; first | refine g_mv ?_ | refine g_as ?_ | refine g_pt ?_ | refine g_pf ?_ | refine g_nt ?_ | refine g_ex ?_ | refine g_nc ?_ | refine g_fa ?_ | refine g_ld ?_ | refine g_ia ?_ | refine g_sl ?_ | refine g_ad ?_ | refine g_sb ?_ | refine g_ln ?_ | refine g_cv ?_ | refine g_lss ?_ | refine g_leq ?_ | refine g_gtr ?_ | refine g_geq ?_ | refine g_eql ?_ | refine g_neq ?_ | refine g_eqlf ?_ | refine g_eqlp ?_ | refine g_eqln ?_ | refine g_neqf ?_ | refine g_neqp ?_ | refine g_neqn ?_))
  refine At_while (fun k : Nat => [(0, .slice a len cap), (1, .slice a' len cap'), (5, .int .i64 k)])
    (fun k w' => k ≤ len ∧ Kp No w w') (fun k => len - k) 0 ⟨rfl, rfl, rfl, trivial⟩ ⟨by omega, Kp.refl _ _⟩ ?_
  rintro k w1 junk ⟨hk, K⟩ again
  by_cases hlt : k < len
  · rcases (hs.kpn K).mem with ⟨rfl, h00⟩ | ⟨b, off, rfl, hbl, hsg⟩
    · omega
    rcases (hs'.kpn K).mem with ⟨rfl, h00⟩ | ⟨b', off', rfl, hbl', hsg'⟩
    · have := hs'.le; omega
    repeat (first | refine AtR_nil ?_ | refine s_mv ?_ | refine s_as ?_ | refine s_pt ?_ | refine s_pf ?_ | refine s_nt ?_ | refine s_ex ?_ | refine s_nc ?_ | refine s_fa ?_ | refine s_ld ?_ | refine s_ia ?_ | refine s_sl ?_ | refine s_ad ?_ | refine s_sb ?_ | refine s_ln ?_ | refine s_cv ?_ | refine s_lss ?_ | refine s_leq ?_ | refine s_gtr ?_ | refine s_geq ?_ | refine s_eql ?_ | refine s_neq ?_ | refine s_eqlf ?_ | refine s_eqlp ?_ | refine s_eqln ?_ | refine s_neqf ?_ | refine s_neqp ?_ | refine s_neqn ?_ | refine At_seq ?_ | refine At_region ?_ | refine AtR_nil ?_ | refine At_block ?_ | refine At_inBlock ?_ | refine At_skip ?_ | refine At_cond_t rfl ?_ | refine At_cond_f rfl ?_ | refine At_exit rfl ?_ | refine s_no rfl rfl rfl rfl ?_ | refine s_nou rfl rfl rfl ?_ | (refine s_yes rfl rfl rfl rfl ?_; first | refine g_mv ?_ | refine g_as ?_ | refine g_pt ?_ | refine g_pf ?_ | refine g_nt ?_ | refine g_ex ?_ | refine g_nc ?_ | refine g_fa ?_ | refine g_ld ?_ | refine g_ia ?_ | refine g_sl ?_ | refine g_ad ?_ | refine g_sb ?_ | refine g_ln ?_ | refine g_cv ?_ | refine g_lss ?_ | refine g_leq ?_ | refine g_gtr ?_ | refine g_geq ?_ | refine g_eql ?_ | refine g_neq ?_ | refine g_eqlf ?_ | refine g_eqlp ?_ | refine g_eqln ?_ | refine g_neqf ?_ | refine g_neqp ?_ | refine g_neqn ?_))
    refine At_draw (fun w' => Seg w' b off (ints .i64 xs) ∧ Seg w' b' off' (ints .i64 xs)) rfl ?_
    have hS : Seg w1.drew b off (ints .i64 xs) ∧ Seg w1.drew b' off' (ints .i64 xs) := ⟨hsg, hsg'⟩
    (apply AtH_take 0 rfl (by decide +kernel) (by first | exact rfl | exact ⟨_, _, rfl, by decide, rfl, rfl⟩); (focus (intro wx hx; obtain ⟨hu,hv⟩ := hx; first | exact x_move (by conv => lhs; whnf) | exact x_assign (by conv => lhs; whnf) | exact x_pick_t rfl (by conv => lhs; whnf) | exact x_pick_f rfl (by conv => lhs; whnf) | exact x_not rfl | exact x_extract rfl rfl | exact x_nilCheck rfl | exact x_fieldAddrN rfl (by first | exact Nat.zero_add _ | exact Nat.add_zero _ | (simp only [Nat.reduceAdd] <;> rfl) | exact rfl) | exact x_load_ints rfl (by assumption) (by omega) | exact x_load_bints rfl (by assumption) (by omega) | exact x_load_flw rfl (by assumption) (by assumption) rfl | exact x_load1 rfl (by assumption) rfl | exact x_load_fl rfl (by assumption) rfl (by assumption) rfl | exact x_load_fl1 rfl (by assumption) rfl (by assumption) | exact x_indexAddrN1 rfl rfl (by omega) | exact x_slice_hN rfl (by assumption) rfl (by omega) | exact x_indexAddr1 rfl rfl (by omega) (by omega) | exact x_add64 rfl rfl (by omega) (by omega) | exact x_sub64 rfl rfl (by omega) (by omega) | exact x_len_slice rfl | exact x_len_string rfl)); (focus (exact hS)))
    (apply AtH_take 1 rfl (by decide +kernel) (by first | exact rfl | exact ⟨_, _, rfl, by decide, rfl, rfl⟩); (focus (intro wx hx; obtain ⟨hu,hv⟩ := hx; first | exact x_move (by conv => lhs; whnf) | exact x_assign (by conv => lhs; whnf) | exact x_pick_t rfl (by conv => lhs; whnf) | exact x_pick_f rfl (by conv => lhs; whnf) | exact x_not rfl | exact x_extract rfl rfl | exact x_nilCheck rfl | exact x_fieldAddrN rfl (by first | exact Nat.zero_add _ | exact Nat.add_zero _ | (simp only [Nat.reduceAdd] <;> rfl) | exact rfl) | exact x_load_ints rfl (by assumption) (by omega) | exact x_load_bints rfl (by assumption) (by omega) | exact x_load_flw rfl (by assumption) (by assumption) rfl | exact x_load1 rfl (by assumption) rfl | exact x_load_fl rfl (by assumption) rfl (by assumption) rfl | exact x_load_fl1 rfl (by assumption) rfl (by assumption) | exact x_indexAddrN1 rfl rfl (by omega) | exact x_slice_hN rfl (by assumption) rfl (by omega) | exact x_indexAddr1 rfl rfl (by omega) (by omega) | exact x_add64 rfl rfl (by omega) (by omega) | exact x_sub64 rfl rfl (by omega) (by omega) | exact x_len_slice rfl | exact x_len_string rfl)); (focus (exact hS)))
    (apply AtH_take 2 rfl (by decide +kernel) (by first | exact rfl | exact ⟨_, _, rfl, by decide, rfl, rfl⟩); (focus (intro wx hx; obtain ⟨hu,hv⟩ := hx; first | exact x_move (by conv => lhs; whnf) | exact x_assign (by conv => lhs; whnf) | exact x_pick_t rfl (by conv => lhs; whnf) | exact x_pick_f rfl (by conv => lhs; whnf) | exact x_not rfl | exact x_extract rfl rfl | exact x_nilCheck rfl | exact x_fieldAddrN rfl (by first | exact Nat.zero_add _ | exact Nat.add_zero _ | (simp only [Nat.reduceAdd] <;> rfl) | exact rfl) | exact x_load_ints rfl (by assumption) (by omega) | exact x_load_bints rfl (by assumption) (by omega) | exact x_load_flw rfl (by assumption) (by assumption) rfl | exact x_load1 rfl (by assumption) rfl | exact x_load_fl rfl (by assumption) rfl (by assumption) rfl | exact x_load_fl1 rfl (by assumption) rfl (by assumption) | exact x_indexAddrN1 rfl rfl (by omega) | exact x_slice_hN rfl (by assumption) rfl (by omega) | exact x_indexAddr1 rfl rfl (by omega) (by omega) | exact x_add64 rfl rfl (by omega) (by omega) | exact x_sub64 rfl rfl (by omega) (by omega) | exact x_len_slice rfl | exact x_len_string rfl)); (focus (exact hS)))
    (apply AtH_take 3 rfl (by decide +kernel) (by first | exact rfl | exact ⟨_, _, rfl, by decide, rfl, rfl⟩); (focus (intro wx hx; obtain ⟨hu,hv⟩ := hx; first | exact x_move (by conv => lhs; whnf) | exact x_assign (by conv => lhs; whnf) | exact x_pick_t rfl (by conv => lhs; whnf) | exact x_pick_f rfl (by conv => lhs; whnf) | exact x_not rfl | exact x_extract rfl rfl | exact x_nilCheck rfl | exact x_fieldAddrN rfl (by first | exact Nat.zero_add _ | exact Nat.add_zero _ | (simp only [Nat.reduceAdd] <;> rfl) | exact rfl) | exact x_load_ints rfl (by assumption) (by omega) | exact x_load_bints rfl (by assumption) (by omega) | exact x_load_flw rfl (by assumption) (by assumption) rfl | exact x_load1 rfl (by assumption) rfl | exact x_load_fl rfl (by assumption) rfl (by assumption) rfl | exact x_load_fl1 rfl (by assumption) rfl (by assumption) | exact x_indexAddrN1 rfl rfl (by omega) | exact x_slice_hN rfl (by assumption) rfl (by omega) | exact x_indexAddr1 rfl rfl (by omega) (by omega) | exact x_add64 rfl rfl (by omega) (by omega) | exact x_sub64 rfl rfl (by omega) (by omega) | exact x_len_slice rfl | exact x_len_string rfl)); (focus (exact hS)))
    (apply AtH_take 4 rfl (by decide +kernel) (by first | exact rfl | exact ⟨_, _, rfl, by decide, rfl, rfl⟩); (focus (intro wx hx; obtain ⟨hu,hv⟩ := hx; first | exact x_move (by conv => lhs; whnf) | exact x_assign (by conv => lhs; whnf) | exact x_pick_t rfl (by conv => lhs; whnf) | exact x_pick_f rfl (by conv => lhs; whnf) | exact x_not rfl | exact x_extract rfl rfl | exact x_nilCheck rfl | exact x_fieldAddrN rfl (by first | exact Nat.zero_add _ | exact Nat.add_zero _ | (simp only [Nat.reduceAdd] <;> rfl) | exact rfl) | exact x_load_ints rfl (by assumption) (by omega) | exact x_load_bints rfl (by assumption) (by omega) | exact x_load_flw rfl (by assumption) (by assumption) rfl | exact x_load1 rfl (by assumption) rfl | exact x_load_fl rfl (by assumption) rfl (by assumption) rfl | exact x_load_fl1 rfl (by assumption) rfl (by assumption) | exact x_indexAddrN1 rfl rfl (by omega) | exact x_slice_hN rfl (by assumption) rfl (by omega) | exact x_indexAddr1 rfl rfl (by omega) (by omega) | exact x_add64 rfl rfl (by omega) (by omega) | exact x_sub64 rfl rfl (by omega) (by omega) | exact x_len_slice rfl | exact x_len_string rfl)); (focus (exact hS)))
    (apply AtH_take 5 rfl (by decide +kernel) (by first | exact rfl | exact ⟨_, _, rfl, by decide, rfl, rfl⟩); (focus (intro wx hx; obtain ⟨hu,hv⟩ := hx; first | exact x_move (by conv => lhs; whnf) | exact x_assign (by conv => lhs; whnf) | exact x_pick_t rfl (by conv => lhs; whnf) | exact x_pick_f rfl (by conv => lhs; whnf) | exact x_not rfl | exact x_extract rfl rfl | exact x_nilCheck rfl | exact x_fieldAddrN rfl (by first | exact Nat.zero_add _ | exact Nat.add_zero _ | (simp only [Nat.reduceAdd] <;> rfl) | exact rfl) | exact x_load_ints rfl (by assumption) (by omega) | exact x_load_bints rfl (by assumption) (by omega) | exact x_load_flw rfl (by assumption) (by assumption) rfl | exact x_load1 rfl (by assumption) rfl | exact x_load_fl rfl (by assumption) rfl (by assumption) rfl | exact x_load_fl1 rfl (by assumption) rfl (by assumption) | exact x_indexAddrN1 rfl rfl (by omega) | exact x_slice_hN rfl (by assumption) rfl (by omega) | exact x_indexAddr1 rfl rfl (by omega) (by omega) | exact x_add64 rfl rfl (by omega) (by omega) | exact x_sub64 rfl rfl (by omega) (by omega) | exact x_len_slice rfl | exact x_len_string rfl)); (focus (exact hS)))
    (apply AtH_take 6 rfl (by decide +kernel) (by first | exact rfl | exact ⟨_, _, rfl, by decide, rfl, rfl⟩); (focus (intro wx hx; obtain ⟨hu,hv⟩ := hx; first | exact x_move (by conv => lhs; whnf) | exact x_assign (by conv => lhs; whnf) | exact x_pick_t rfl (by conv => lhs; whnf) | exact x_pick_f rfl (by conv => lhs; whnf) | exact x_not rfl | exact x_extract rfl rfl | exact x_nilCheck rfl | exact x_fieldAddrN rfl (by first | exact Nat.zero_add _ | exact Nat.add_zero _ | (simp only [Nat.reduceAdd] <;> rfl) | exact rfl) | exact x_load_ints rfl (by assumption) (by omega) | exact x_load_bints rfl (by assumption) (by omega) | exact x_load_flw rfl (by assumption) (by assumption) rfl | exact x_load1 rfl (by assumption) rfl | exact x_load_fl rfl (by assumption) rfl (by assumption) rfl | exact x_load_fl1 rfl (by assumption) rfl (by assumption) | exact x_indexAddrN1 rfl rfl (by omega) | exact x_slice_hN rfl (by assumption) rfl (by omega) | exact x_indexAddr1 rfl rfl (by omega) (by omega) | exact x_add64 rfl rfl (by omega) (by omega) | exact x_sub64 rfl rfl (by omega) (by omega) | exact x_len_slice rfl | exact x_len_string rfl)); (focus (exact hS)))
    (apply AtH_take 7 rfl (by decide +kernel) (by first | exact rfl | exact ⟨_, _, rfl, by decide, rfl, rfl⟩); (focus (intro wx hx; obtain ⟨hu,hv⟩ := hx; first | exact x_move (by conv => lhs; whnf) | exact x_assign (by conv => lhs; whnf) | exact x_pick_t rfl (by conv => lhs; whnf) | exact x_pick_f rfl (by conv => lhs; whnf) | exact x_not rfl | exact x_extract rfl rfl | exact x_nilCheck rfl | exact x_fieldAddrN rfl (by first | exact Nat.zero_add _ | exact Nat.add_zero _ | (simp only [Nat.reduceAdd] <;> rfl) | exact rfl) | exact x_load_ints rfl (by assumption) (by omega) | exact x_load_bints rfl (by assumption) (by omega) | exact x_load_flw rfl (by assumption) (by assumption) rfl | exact x_load1 rfl (by assumption) rfl | exact x_load_fl rfl (by assumption) rfl (by assumption) rfl | exact x_load_fl1 rfl (by assumption) rfl (by assumption) | exact x_indexAddrN1 rfl rfl (by omega) | exact x_slice_hN rfl (by assumption) rfl (by omega) | exact x_indexAddr1 rfl rfl (by omega) (by omega) | exact x_add64 rfl rfl (by omega) (by omega) | exact x_sub64 rfl rfl (by omega) (by omega) | exact x_len_slice rfl | exact x_len_string rfl)); (focus (exact hS)))
    (apply AtH_bool 8 rfl (by decide +kernel) (by first | exact rfl | exact ⟨_, _, rfl, by decide, rfl, rfl⟩); (focus (intro wx hx; obtain ⟨hu,hv⟩ := hx; first | exact x_lss rfl rfl | exact x_leq rfl rfl | exact x_gtr rfl rfl | exact x_geq rfl rfl | exact x_eql rfl rfl | exact x_neq rfl rfl | exact x_eql_flat rfl rfl (by assumption) (by assumption) | exact x_neq_flat rfl rfl (by assumption) (by assumption))); (focus (first | exact decide_eq_true (by omega) | exact decide_eq_false (by omega) | exact decide_eq_true (by assumption) | exact decide_eq_false (by assumption))); (focus (exact hS)))
    refine AtH_done (by decide +kernel) ?_
    repeat (first | refine AtR_nil ?_ | refine s_mv ?_ | refine s_as ?_ | refine s_pt ?_ | refine s_pf ?_ | refine s_nt ?_ | refine s_ex ?_ | refine s_nc ?_ | refine s_fa ?_ | refine s_ld ?_ | refine s_ia ?_ | refine s_sl ?_ | refine s_ad ?_ | refine s_sb ?_ | refine s_ln ?_ | refine s_cv ?_ | refine s_lss ?_ | refine s_leq ?_ | refine s_gtr ?_ | refine s_geq ?_ | refine s_eql ?_ | refine s_neq ?_ | refine s_eqlf ?_ | refine s_eqlp ?_ | refine s_eqln ?_ | refine s_neqf ?_ | refine s_neqp ?_ | refine s_neqn ?_ | refine At_seq ?_ | refine At_region ?_ | refine AtR_nil ?_ | refine At_block ?_ | refine At_inBlock ?_ | refine At_skip ?_ | refine At_cond_t rfl ?_ | refine At_cond_f rfl ?_ | refine At_exit rfl ?_ | refine s_no rfl rfl rfl rfl ?_ | refine s_nou rfl rfl rfl ?_ | (refine s_yes rfl rfl rfl rfl ?_; first | refine g_mv ?_ | refine g_as ?_ | refine g_pt ?_ | refine g_pf ?_ | refine g_nt ?_ | refine g_ex ?_ | refine g_nc ?_ | refine g_fa ?_ | refine g_ld ?_ | refine g_ia ?_ | refine g_sl ?_ | refine g_ad ?_ | refine g_sb ?_ | refine g_ln ?_ | refine g_cv ?_ | refine g_lss ?_ | refine g_leq ?_ | refine g_gtr ?_ | refine g_geq ?_ | refine g_eql ?_ | refine g_neq ?_ | refine g_eqlf ?_ | refine g_eqlp ?_ | refine g_eqln ?_ | refine g_neqf ?_ | refine g_neqp ?_ | refine g_neqn ?_))
    exact again (k + 1) _ _ ⟨rfl, rfl, rfl, trivial⟩ ⟨hlt, K.trans Kp.drew⟩ (by omega)
  · repeat (first | refine AtR_nil ?_ | refine s_mv ?_ | refine s_as ?_ | refine s_pt ?_ | refine s_pf ?_ | refine s_nt ?_ | refine s_ex ?_ | refine s_nc ?_ | refine s_fa ?_ | refine s_ld ?_ | refine s_ia ?_ | refine s_sl ?_ | refine s_ad ?_ | refine s_sb ?_ | refine s_ln ?_ | refine s_cv ?_ | refine s_lss ?_ | refine s_leq ?_ | refine s_gtr ?_ | refine s_geq ?_ | refine s_eql ?_ | refine s_neq ?_ | refine s_eqlf ?_ | refine s_eqlp ?_ | refine s_eqln ?_ | refine s_neqf ?_ | refine s_neqp ?_ | refine s_neqn ?_ | refine At_seq ?_ | refine At_region ?_ | refine AtR_nil ?_ | refine At_block ?_ | refine At_inBlock ?_ | refine At_skip ?_ | refine At_cond_t rfl ?_ | refine At_cond_f rfl ?_ | refine At_exit rfl ?_ | refine s_no rfl rfl rfl rfl ?_ | refine s_nou rfl rfl rfl ?_ | (refine s_yes rfl rfl rfl rfl ?_; first | refine g_mv ?_ | refine g_as ?_ | refine g_pt ?_ | refine g_pf ?_ | refine g_nt ?_ | refine g_ex ?_ | refine g_nc ?_ | refine g_fa ?_ | refine g_ld ?_ | refine g_ia ?_ | refine g_sl ?_ | refine g_ad ?_ | refine g_sb ?_ | refine g_ln ?_ | refine g_cv ?_ | refine g_lss ?_ | refine g_leq ?_ | refine g_gtr ?_ | refine g_geq ?_ | refine g_eql ?_ | refine g_neq ?_ | refine g_eqlf ?_ | refine g_eqlp ?_ | refine g_eqln ?_ | refine g_neqf ?_ | refine g_neqp ?_ | refine g_neqn ?_))
    refine At_ret1 Try.func25 rfl (by conv => lhs; whnf) ?_
    exact ⟨rfl, K⟩
theorem usedL_mem (st : List Int) : ∀ (first x : Int), x ∈ usedL first st ↔ ∃ j : Nat, j < st.length ∧ x = first + j ∧ st.getD j 0 = 1 := by
  induction st with
  | nil => intro first x; simp [usedL]
  | cons y ys ih =>
    intro first x
    have key : (∃ j : Nat, j < (y :: ys).length ∧ x = first + j ∧ (y :: ys).getD j 0 = 1) ↔ ((x = first ∧ y = 1) ∨ ∃ j : Nat, j < ys.length ∧ x = first + 1 + j ∧ ys.getD j 0 = 1) := by
      constructor
      · rintro ⟨j, hj, hx, hv⟩
        cases j with
        | zero => left; exact ⟨by simpa using hx, by simpa using hv⟩
        | succ j => right; exact ⟨j, by simpa using hj, by omega, by simpa using hv⟩
      · rintro (⟨hx, hv⟩ | ⟨j, hj, hx, hv⟩)
        · exact ⟨0, by simp, by simpa using hx, by simpa using hv⟩
        · exact ⟨j + 1, by simpa using hj, by omega, by simpa using hv⟩
    rw [key, ← ih, usedL]
    split
    · rename_i h; simp [h]
    · rename_i h; simp [h]
theorem usedL_sorted (st : List Int) : ∀ first : Int, (usedL first st).Pairwise (· < ·) := by
  induction st with
  | nil => intro first; exact List.Pairwise.nil
  | cons y ys ih =>
    intro first
    rw [usedL]
    split
    · refine List.Pairwise.cons (fun x hx => ?_) (ih _)
      obtain ⟨j, _, hx, _⟩ := (usedL_mem ys _ _).1 hx
      omega
    · exact ih _
theorem getD_set (st : List Int) (i j : Nat) (v : Int) (hj : j < st.length) : (st.set i v).getD j 0 = if i = j then v else st.getD j 0 := by
  rw [getD_lt (by simpa using hj), getD_lt hj, List.getElem_set]
theorem trn1_get (fm to x : Int) (st : List Int) (j : Nat) (hj : j < st.length) : (trn 0 fm to [x] st).1.getD j 0 = if x = j ∧ st.getD j 0 = fm then to else st.getD j 0 := by
  rw [trn1]
  by_cases hc : 0 ≤ x ∧ x - 0 < st.length ∧ st.getD (x - 0).toNat 0 = fm
  · rw [if_pos hc]
    obtain ⟨h1, h2, h3⟩ := hc
    simp only
    rw [getD_set _ _ _ _ hj]
    by_cases e : (x - 0).toNat = j
    · rw [if_pos e, if_pos ⟨by omega, by rw [← e]; exact h3⟩]
    · rw [if_neg e, if_neg (fun h => e (by omega))]
  · rw [if_neg hc]
    simp only
    rw [if_neg]
    rintro ⟨rfl, h⟩
    exact hc ⟨by omega, by omega, by simpa using h⟩
theorem backAll_length (first : Int) (xs : List Int) : ∀ st, (backAll first xs st).length = st.length := by
  induction xs with
  | nil => intro st; rfl
  | cons x xs ih => intro st; rw [backAll, List.foldl_cons]; exact (ih _).trans (trn_length ..)
theorem backAll_get (xs : List Int) : ∀ (st : List Int) (j : Nat), j < st.length → (backAll 0 xs st).getD j 0 = if (j : Int) ∈ xs ∧ st.getD j 0 = 1 then 0 else st.getD j 0 := by
  induction xs with
  | nil => intro st j hj; simp [backAll]
  | cons x xs ih =>
    intro st j hj
    rw [backAll, List.foldl_cons]
    refine (ih _ j (by rw [trn_length]; exact hj)).trans ?_
    rw [trn1_get _ _ _ _ _ hj]
    generalize st.getD j 0 = v
    have h2' : (j : Int) = x ↔ x = j := eq_comm
    by_cases h1 : v = 1
    · by_cases h2 : x = j
      · simp [h1, h2]
      · simp [h1, h2, h2']
    · simp [h1]
/-- How the row stands when T was taken and the first g of the used ones were given. -/
structure InvU (s0 T : List Int) (g : Nat) (st : List Int) : Prop where
  len : st.length = s0.length
  at' : ∀ j : Nat, j < s0.length → st.getD j 0 = if s0.getD j 0 = 1 then (if (j : Int) ∈ (usedL 0 s0).take g then 2 else 1) else if (j : Int) ∈ T then 1 else 0
theorem InvU.start {s0 : List Int} (h : ∀ j, j < s0.length → s0.getD j 0 = 0 ∨ s0.getD j 0 = 1) : InvU s0 [] 0 s0 := ⟨rfl, fun j hj => by
  rcases h j hj with e | e <;> rw [e] <;> simp⟩
theorem InvU.take {s0 T : List Int} {g : Nat} {st : List Int} (h : InvU s0 T g st) : tk 0 st = (0, 12, st) ∨ ∃ (j : Nat) (st' : List Int), j < s0.length ∧ s0.getD j 0 ≠ 1 ∧ tk 0 st = (0 + (j : Int), 0, st') ∧ InvU s0 (T ++ [0 + (j : Int)]) g st' := by
  rcases tk_cases 0 st with ⟨_, e⟩ | ⟨j, hj, hz, _, e⟩
  · exact .inl e
  · have hj0 : j < s0.length := by rw [← h.len]; exact hj
    have n1 : s0.getD j 0 ≠ 1 := by
      intro h1
      have ha := h.at' j hj0
      rw [hz, if_pos h1] at ha
      split at ha <;> omega
    refine .inr ⟨j, _, hj0, n1, e, by rw [List.length_set]; exact h.len, fun i hi => ?_⟩
    rw [getD_set _ _ _ _ (by rw [h.len]; exact hi)]
    have ha := h.at' i hi
    by_cases c : j = i
    · subst c
      rw [if_pos rfl, if_neg n1, if_pos (by simp)]
    · rw [if_neg c, ha]
      have : ((i : Int) ∈ T ++ [0 + (j : Int)]) ↔ (i : Int) ∈ T := by
        rw [List.mem_append, List.mem_singleton]
        exact ⟨fun h => h.elim id (fun h => absurd h (by omega)), .inl⟩
      simp only [this]
theorem InvU.give {s0 T : List Int} {g : Nat} {st : List Int} (h : InvU s0 T g st) (hg : g < (usedL 0 s0).length) : ∃ st', trn 0 1 2 [(usedL 0 s0).getD g 0] st = (st', 0) ∧ InvU s0 T (g + 1) st' ∧ 0 ≤ (usedL 0 s0).getD g 0 ∧ (usedL 0 s0).getD g 0 < s0.length := by
  have hm : (usedL 0 s0).getD g 0 ∈ usedL 0 s0 := by rw [getD_lt hg]; exact List.getElem_mem hg
  obtain ⟨j, hj, hx, hv⟩ := (usedL_mem s0 0 _).1 hm
  have hnot : ¬ (usedL 0 s0).getD g 0 ∈ (usedL 0 s0).take g := by
    intro hin
    obtain ⟨i, hi, e⟩ := List.getElem_of_mem hin
    simp only [List.length_take] at hi
    rw [List.getElem_take] at e
    have := List.pairwise_iff_getElem.1 (usedL_sorted s0 0) i g (by omega) hg (by omega)
    rw [getD_lt hg] at e
    omega
  have hxj : (usedL 0 s0).getD g 0 = (j : Int) := by omega
  have ha := h.at' j hj
  rw [if_pos hv, if_neg (by rw [← hxj]; exact hnot)] at ha
  have hlen := h.len
  have ht : trn 0 1 2 [(usedL 0 s0).getD g 0] st = (st.set j 2, 0) := by
    rw [trn1, hxj]
    have e1 : ((j : Int) - 0).toNat = j := by omega
    rw [e1, if_pos ⟨by omega, by omega, ha⟩]
  refine ⟨_, ht, ⟨by rw [List.length_set]; exact h.len, fun i hi => ?_⟩, by omega, by omega⟩
  have hmem : ((i : Int) ∈ (usedL 0 s0).take (g + 1)) ↔ ((i : Int) ∈ (usedL 0 s0).take g ∨ i = j) := by
    rw [List.take_succ_eq_append_getElem hg, ← getD_lt hg, hxj, List.mem_append, List.mem_singleton]
    constructor
    · rintro (h | h)
      · exact .inl h
      · exact .inr (by omega)
    · rintro (h | h)
      · exact .inl h
      · exact .inr (by omega)
  rw [getD_set _ _ _ _ (by omega)]
  by_cases c : j = i
  · subst c
    rw [if_pos rfl, if_pos hv, if_pos (hmem.2 (.inr rfl))]
  · rw [if_neg c, h.at' i hi]
    have : ((i : Int) ∈ (usedL 0 s0).take (g + 1)) ↔ ((i : Int) ∈ (usedL 0 s0).take g) := hmem.trans ⟨fun h => h.elim id (fun h => absurd h.symm c), .inl⟩
    simp only [this]
theorem InvU.undo {s0 T : List Int} {g : Nat} {st : List Int} (h : InvU s0 T g st) (h01 : ∀ j, j < s0.length → s0.getD j 0 = 0 ∨ s0.getD j 0 = 1) (hT : ∀ x ∈ T, ∃ j : Nat, x = j ∧ s0.getD j 0 = 0) : allOf 2 1 (backAll 0 T st) = s0 := by
  have hl : (backAll 0 T st).length = s0.length := (backAll_length ..).trans h.len
  apply List.ext_getElem
  · rw [allOf_length]; exact hl
  · intro j hj1 hj2
    have hb := backAll_get T st j (by rw [h.len]; exact hj2)
    have ha := h.at' j hj2
    rw [← getD_lt hj2]
    simp only [allOf, List.getElem_map]
    rw [← getD_lt (by rw [hl]; exact hj2), hb, ha]
    rcases h01 j hj2 with e | e
    · have n1 : ¬ s0.getD j 0 = 1 := by omega
      rw [e]
      by_cases m : (j : Int) ∈ T
      · simp [m]
      · simp [m]
    · have nT : ¬ (j : Int) ∈ T := by
        intro hin
        obtain ⟨i, hi, h0⟩ := hT _ hin
        have : i = j := by omega
        subst this
        omega
      rw [e]
      simp only [nT, false_and, if_false, if_true]
      split <;> simp
end Go.Proofs.Ytogfkmejgjodaaa
