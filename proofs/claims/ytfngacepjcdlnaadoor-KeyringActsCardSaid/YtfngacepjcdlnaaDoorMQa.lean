/- The functions of the layer 'policy' that need no ring; the examples of law 24. | The examples of law 24. -/
import Derived.Test.YtfngacepjcdlnaaDoorMKt
import Derived.Test.YtfngacepjcdlnaaDoorMKb
set_option linter.unusedVariables false
namespace Go.Proofs.YtfngacepjcdlnaaDoor
open Go Go.Kx
/-- An inode's record, as the list of its numbers: a value. -/
def V42 (ps : List Int) : Value := .agg (mkI K42 ps).toArray
def V35 (ps : List Int) : Value := .agg (mkI K35 ps).toArray
abbrev unit (ps : List Int) : Int := ps.getD 21 0
abbrev pol (ps : List Int) : List Int := (ps.drop 21).take 17
abbrev zeros72 : List Int := List.replicate 72 0
theorem pol_len {ps : List Int} (h : K42.length = ps.length) : (pol ps).length = K35.length := by
  have h : 72 = ps.length := h
  show (pol ps).length = 17
  simp; omega

set_option maxRecDepth 100000 in
theorem plain_calls (ps : List Int) (w : World) (hps : K42.length = ps.length) :
    Calls Tryd.prog 91 #[V42 ps] w fun e w' => e = .returned (.bool (decide (unit ps = 0))) ∧ Kp No w w' := by
  refine calls_at (n := 7) Tryd.func91 rfl rfl (by simp) ?_
  (refine At_seq ?_; refine At_region ?_)
  refine AtR_go rfl (AtG_box rfl fun b w1 hb e1 => ?_)
  have B1 : Blk w1 b 42 (0, 0) (mkI K42 ps) := e1.here
  (refine s_as ?_; refine AtR_nil ?_; refine At_seq ?_; refine At_region ?_; refine s_fa ?_; refine s_fa ?_; refine s_ld ?_)
  refine s_val (x_eql rfl rfl) ?_
  (refine s_as ?_; refine AtR_nil ?_)
  refine At_ret1 Tryd.func91 rfl (by conv => lhs; whnf) ?_
  exact ⟨rfl, e1.kp (.inr (by omega))⟩

def fitsS (ps cs : List Int) : Int := if unit ps = 0 then 0 else if pol cs = pol ps then 0 else 18
set_option maxRecDepth 100000 in
theorem fits_calls (ps cs : List Int) (w : World) (hps : K42.length = ps.length) (hcs : K42.length = cs.length) :
    Calls Tryd.prog 52 #[V42 ps, V42 cs] w fun e w' => e = .returned (.int .i64 (fitsS ps cs)) ∧ Kp No w w' := by
  refine calls_at (n := 15) Tryd.func52 rfl rfl (by simp) ?_
  have hp1 := pol_len hps
  have hc1 := pol_len hcs
  (refine At_seq ?_; refine At_region ?_)
  refine AtR_go rfl (AtG_box rfl fun b2 w1 hb2 e1 => ?_)
  have B2 : Blk w1 b2 42 (0, 0) (mkI K42 ps) := e1.here
  refine AtR_go rfl (AtG_box rfl fun b3 w2 hb3 e2 => ?_)
  have l1 := e1.lt
  have B3 : Blk w2 b3 42 (0, 0) (mkI K42 cs) := e2.here
  replace B2 := B2.eff e2 (by omega)
  have K2 : Kp No w w2 := (e1.kp (.inr (by omega))).trans' (e2.kp (S := fun j => j = b3) (.inl rfl)) (by rintro j rfl; right; omega)
  clear e1 e2
  (refine s_as ?_; refine AtR_nil ?_; refine At_seq ?_; refine At_seq ?_; refine At_region ?_; refine s_ld ?_)
  refine s_call x_call (plain_calls ps _ hps) ?_
  rintro e w3 ⟨rfl, k3⟩
  refine ⟨_, rfl, ?_⟩
  replace B2 := B2.kp k3 id
  replace B3 := B3.kp k3 id
  have K3 : Kp No w w3 := K2.trans k3
  by_cases hu : unit ps = 0
  · rw [decide_eq_true hu]
    (refine s_nt ?_; refine s_mv ?_; refine s_no rfl rfl rfl rfl ?_; refine s_no rfl rfl rfl rfl ?_; refine s_no rfl rfl rfl rfl ?_; refine s_no rfl rfl rfl rfl ?_; refine s_no rfl rfl rfl rfl ?_; refine s_pf ?_; refine AtR_nil ?_; refine At_cond_f rfl ?_; refine At_skip ?_; refine At_seq ?_; refine At_region ?_; refine s_as ?_; refine AtR_nil ?_)
    refine At_ret1 Tryd.func52 rfl (by conv => lhs; whnf) ?_
    exact ⟨by rw [fitsS, if_pos hu], K3⟩
  · rw [decide_eq_false hu]
    by_cases hq : pol cs = pol ps
    · have hq' : ¬ pol cs ≠ pol ps := fun h => h hq
      (refine s_nt ?_; refine s_mv ?_; refine s_yes rfl rfl rfl rfl ?_; refine g_fa ?_; refine s_yes rfl rfl rfl rfl ?_; refine g_ld ?_; refine s_yes rfl rfl rfl rfl ?_; refine g_fa ?_; refine s_yes rfl rfl rfl rfl ?_; refine g_ld ?_; refine s_yes rfl rfl rfl rfl ?_; refine g_neqf ?_; refine s_pt ?_; refine AtR_nil ?_; refine At_cond_f rfl ?_; refine At_skip ?_; refine At_seq ?_; refine At_region ?_; refine s_as ?_; refine AtR_nil ?_)
      refine At_ret1 Tryd.func52 rfl (by conv => lhs; whnf) ?_
      exact ⟨by simp only [fitsS, hu, hq, if_true, if_false], K3⟩
    · have hq' : pol cs ≠ pol ps := hq
      (refine s_nt ?_; refine s_mv ?_; refine s_yes rfl rfl rfl rfl ?_; refine g_fa ?_; refine s_yes rfl rfl rfl rfl ?_; refine g_ld ?_; refine s_yes rfl rfl rfl rfl ?_; refine g_fa ?_; refine s_yes rfl rfl rfl rfl ?_; refine g_ld ?_; refine s_yes rfl rfl rfl rfl ?_; refine g_neqf ?_; refine s_pt ?_; refine AtR_nil ?_; refine At_cond_t rfl ?_; refine At_seq ?_; refine At_region ?_; refine s_as ?_; refine AtR_nil ?_)
      refine At_ret1 Tryd.func52 rfl (by conv => lhs; whnf) ?_
      exact ⟨by simp only [fitsS, hu, hq, if_false], K3⟩

theorem over_zeros {l : List Int} (hl : K42.length = l.length) : layI (List.replicate K42.length 0) 0 l = l := by
  simp only [layI, List.take_zero, List.nil_append]
  rw [List.drop_eq_nil_of_le (by simp; omega), List.append_nil]

theorem zeros_built : Tryd.prog.built 42 [] = some (mkI K42 zeros72).toArray := by kernel_rfl
theorem zeros_len : K42.length = zeros72.length := rfl
/-- What Set comes to: the record, the error. -/
def setS (ps : List Int) (items : Int) (qs : List Int) : List Int × Int :=
  if ps.getD 0 0 ≠ 2 ∨ (qs.getD 0 0 ≠ 16 ∧ qs.getD 0 0 ≠ 32) then (zeros72, 2)
  else if pol ps = qs then (ps, 0)
  else if unit ps ≠ 0 then (zeros72, 17)
  else if 0 < items then (zeros72, 19)
  else (layI ps 21 qs, 0)
theorem setS_len {ps qs : List Int} {items : Int} (hps : K42.length = ps.length) (hqs : K35.length = qs.length) : K42.length = (setS ps items qs).1.length := by
  have h1 : 72 = ps.length := hps
  have h2 : 17 = qs.length := hqs
  unfold setS
  split
  · rfl
  split
  · exact hps
  split
  · rfl
  split
  · rfl
  · show 72 = _
    rw [layI_length (by omega)]; exact h1
def SetPost (ps : List Int) (items : Int) (qs : List Int) (w : World) (e : Ending) (w' : World) : Prop :=
  e = .returned (.tuple #[V42 (setS ps items qs).1, .int .i64 (setS ps items qs).2]) ∧ Kp No w w'

--@def plain := refine s_call x_call (plain_calls ps _ hps) ?_; rintro e w4 ⟨rfl, k4⟩; refine ⟨_, rfl, ?_⟩; replace B3 := B3.kp k4 id; replace B5 := B5.kp k4 id; replace B6 := B6.kp k4 id; replace K3 := K3.trans k4; first | rw [decide_eq_true d6] | rw [decide_eq_false d6]
--@def setend := exact ⟨by rw [hs], by assumption⟩
--@def store6 := refine AtR_go rfl (AtG_store_fl (ks := K42) rfl rfl B6 rfl rfl (by assumption) rfl fun w4 e4 => ?_)
set_option maxRecDepth 100000 in
set_option maxHeartbeats 1000000 in
theorem set_calls (ps : List Int) (items : Int) (qs : List Int) (w : World) (hps : K42.length = ps.length) (hqs : K35.length = qs.length) :
    Calls Tryd.prog 65 #[V42 ps, .int .i64 items, V35 qs] w (SetPost ps items qs w) := by
  refine calls_at (n := 41) Tryd.func65 rfl rfl (by simp) ?_
  have hp1 := pol_len hps
  have hq1 := hqs.symm
  have zl := zeros_len
  refine At_seq (At_region ?_)
  refine AtR_go rfl (AtG_box rfl fun b3 w1 hb3 e1 => ?_)
  have B3 : Blk w1 b3 42 (0, 0) (mkI K42 ps) := e1.here
  refine AtR_go rfl (AtG_box rfl fun b5 w2 hb5 e2 => ?_)
  have l1 := e1.lt
  have B5 : Blk w2 b5 35 (0, 0) (mkI K35 qs) := e2.here
  replace B3 := B3.eff e2 (by omega)
  refine AtR_go rfl (AtG_alloc_fl (ks := K42) (z := z42) rfl fun b6 w3 hb6 e3 => ?_)
  have l2 := e2.lt
  have B6 := e3.blk
  replace B3 := B3.eff e3 (by omega)
  replace B5 := B5.eff e3 (by omega)
  have K2 : Kp No w w2 := (e1.kp (.inr (by omega))).trans' (e2.kp (S := fun j => j = b5) (.inl rfl)) (by rintro j rfl; right; omega)
  have K3 : Kp No w w3 := K2.trans' (e3.kp (S := fun j => j = b6) (.inl rfl)) (by rintro j rfl; right; omega)
  clear e1 e2 e3 K2
  have fin : ∀ w3 w4 l v, Kp No w w3 → Eff w3 w4 b6 (.cells (mkI K42 (layI (List.replicate K42.length 0) 0 l)).toArray 42 (0, 0)) → K42.length = l.length → setS ps items qs = (l, v) → Blk w4 b6 42 (0, 0) (mkI K42 l) ∧ SetPost ps items qs w (.returned (.tuple #[V42 l, .int .i64 v])) w4 := by
    intro w3 w4 l v K3 e4 hl hs
    have h := e4.blk
    rw [over_zeros hl] at h
    exact ⟨h, by rw [hs], K3.trans' (e4.kp (S := fun j => j = b6) (.inl rfl)) (by rintro j rfl; right; omega)⟩
  by_cases c1 : ps.getD 0 0 ≠ 2 ∨ (qs.getD 0 0 ≠ 16 ∧ qs.getD 0 0 ≠ 32)
  · have hs : setS ps items qs = (zeros72, 2) := by rw [setS, if_pos c1]
    by_cases d1 : ps.getD 0 0 = 2
    · have d2 : qs.getD 0 0 ≠ 16 := by omega
      have d3 : qs.getD 0 0 ≠ 32 := by omega
      (refine s_as ?_; refine AtR_nil ?_; refine At_seq ?_; refine At_block ?_; refine At_seq ?_; refine At_region ?_; refine s_fa ?_; refine s_ld ?_; refine s_neq ?_; refine s_mv ?_; refine s_yes rfl rfl rfl rfl ?_; refine g_fa ?_; refine s_yes rfl rfl rfl rfl ?_; refine g_ld ?_; refine s_yes rfl rfl rfl rfl ?_; refine g_neq ?_; refine s_yes rfl rfl rfl rfl ?_; refine g_mv ?_; refine s_yes rfl rfl rfl rfl ?_; refine g_fa ?_; refine s_yes rfl rfl rfl rfl ?_; refine g_ld ?_; refine s_yes rfl rfl rfl rfl ?_; refine g_neq ?_; refine s_yes rfl rfl rfl rfl ?_; refine g_pt ?_; refine s_pf ?_; refine s_as ?_; refine AtR_nil ?_; refine At_cond_t rfl ?_; refine At_seq ?_; refine At_region ?_)
      refine s_val (x_build rfl zeros_built) ?_
      refine AtR_go rfl (AtG_store_fl (ks := K42) rfl rfl B6 rfl rfl (by assumption) rfl fun w4 e4 => ?_)
      obtain ⟨B, hR⟩ := fin _ w4 zeros72 2 K3 e4 zeros_len hs
      (refine s_as ?_; refine AtR_nil ?_)
      exact At_ret_cell2 Tryd.func65 rfl rfl B rfl rfl hR
    · (refine s_as ?_; refine AtR_nil ?_; refine At_seq ?_; refine At_block ?_; refine At_seq ?_; refine At_region ?_; refine s_fa ?_; refine s_ld ?_; refine s_neq ?_; refine s_mv ?_; refine s_no rfl rfl rfl rfl ?_; refine s_no rfl rfl rfl rfl ?_; refine s_no rfl rfl rfl rfl ?_; refine s_no rfl rfl rfl rfl ?_; refine s_nou rfl rfl rfl ?_; refine s_nou rfl rfl rfl ?_; refine s_nou rfl rfl rfl ?_; refine s_no rfl rfl rfl rfl ?_; refine s_pt ?_; refine s_as ?_; refine AtR_nil ?_; refine At_cond_t rfl ?_; refine At_seq ?_; refine At_region ?_)
      refine s_val (x_build rfl zeros_built) ?_
      refine AtR_go rfl (AtG_store_fl (ks := K42) rfl rfl B6 rfl rfl (by assumption) rfl fun w4 e4 => ?_)
      obtain ⟨B, hR⟩ := fin _ w4 zeros72 2 K3 e4 zeros_len hs
      (refine s_as ?_; refine AtR_nil ?_)
      exact At_ret_cell2 Tryd.func65 rfl rfl B rfl rfl hR
  have c2 : ps.getD 0 0 = 2 := by omega
  by_cases d4 : pol ps = qs
  · have hs : setS ps items qs = (ps, 0) := by rw [setS, if_neg c1, if_pos d4]
    by_cases d5 : qs.getD 0 0 = 16
    all_goals
      repeat (first | refine AtR_nil ?_ | refine s_mv ?_ | refine s_as ?_ | refine s_pt ?_ | refine s_pf ?_ | refine s_nt ?_ | refine s_ex ?_ | refine s_nc ?_ | refine s_fa ?_ | refine s_ld ?_ | refine s_ia ?_ | refine s_sl ?_ | refine s_ad ?_ | refine s_sb ?_ | refine s_ln ?_ | refine s_cv ?_ | refine s_lss ?_ | refine s_leq ?_ | refine s_gtr ?_ | refine s_geq ?_ | refine s_eql ?_ | refine s_neq ?_ | refine s_eqlf ?_ | refine s_eqlp ?_ | refine s_eqln ?_ | refine s_neqf ?_ | refine s_neqp ?_ | refine s_neqn ?_ | refine At_seq ?_ | refine At_region ?_ | refine AtR_nil ?_ | refine At_block ?_ | refine At_inBlock ?_ | refine At_skip ?_ | refine At_cond_t rfl ?_ | refine At_cond_f rfl ?_ | refine At_exit rfl ?_ | refine s_no rfl rfl rfl rfl ?_ | refine s_nou rfl rfl rfl ?_ | (refine s_yes rfl rfl rfl rfl ?_; first | refine g_mv ?_ | refine g_as ?_ | refine g_pt ?_ | refine g_pf ?_ | refine g_nt ?_ | refine g_ex ?_ | refine g_nc ?_ | refine g_fa ?_ | refine g_ld ?_ | refine g_ia ?_ | refine g_sl ?_ | refine g_ad ?_ | refine g_sb ?_ | refine g_ln ?_ | refine g_cv ?_ | refine g_lss ?_ | refine g_leq ?_ | refine g_gtr ?_ | refine g_geq ?_ | refine g_eql ?_ | refine g_neq ?_ | refine g_eqlf ?_ | refine g_eqlp ?_ | refine g_eqln ?_ | refine g_neqf ?_ | refine g_neqp ?_ | refine g_neqn ?_))
      refine AtR_go rfl (AtG_store_fl (ks := K42) rfl rfl B6 rfl rfl (by assumption) rfl fun w4 e4 => ?_)
      obtain ⟨B, hR⟩ := fin _ w4 ps 0 K3 e4 hps hs
      repeat (first | refine AtR_nil ?_ | refine s_mv ?_ | refine s_as ?_ | refine s_pt ?_ | refine s_pf ?_ | refine s_nt ?_ | refine s_ex ?_ | refine s_nc ?_ | refine s_fa ?_ | refine s_ld ?_ | refine s_ia ?_ | refine s_sl ?_ | refine s_ad ?_ | refine s_sb ?_ | refine s_ln ?_ | refine s_cv ?_ | refine s_lss ?_ | refine s_leq ?_ | refine s_gtr ?_ | refine s_geq ?_ | refine s_eql ?_ | refine s_neq ?_ | refine s_eqlf ?_ | refine s_eqlp ?_ | refine s_eqln ?_ | refine s_neqf ?_ | refine s_neqp ?_ | refine s_neqn ?_ | refine At_seq ?_ | refine At_region ?_ | refine AtR_nil ?_ | refine At_block ?_ | refine At_inBlock ?_ | refine At_skip ?_ | refine At_cond_t rfl ?_ | refine At_cond_f rfl ?_ | refine At_exit rfl ?_ | refine s_no rfl rfl rfl rfl ?_ | refine s_nou rfl rfl rfl ?_ | (refine s_yes rfl rfl rfl rfl ?_; first | refine g_mv ?_ | refine g_as ?_ | refine g_pt ?_ | refine g_pf ?_ | refine g_nt ?_ | refine g_ex ?_ | refine g_nc ?_ | refine g_fa ?_ | refine g_ld ?_ | refine g_ia ?_ | refine g_sl ?_ | refine g_ad ?_ | refine g_sb ?_ | refine g_ln ?_ | refine g_cv ?_ | refine g_lss ?_ | refine g_leq ?_ | refine g_gtr ?_ | refine g_geq ?_ | refine g_eql ?_ | refine g_neq ?_ | refine g_eqlf ?_ | refine g_eqlp ?_ | refine g_eqln ?_ | refine g_neqf ?_ | refine g_neqp ?_ | refine g_neqn ?_))
      exact At_ret_cell2 Tryd.func65 rfl rfl B (by rw [mkI_length (by assumption)]; rfl) rfl hR
  by_cases d6 : unit ps = 0
  · by_cases d7 : 0 < items
    · have hs : setS ps items qs = (zeros72, 19) := by rw [setS, if_neg c1, if_neg d4, if_neg (by simpa using d6), if_pos d7]
      by_cases d5 : qs.getD 0 0 = 16
      all_goals
        repeat (first | refine AtR_nil ?_ | refine s_mv ?_ | refine s_as ?_ | refine s_pt ?_ | refine s_pf ?_ | refine s_nt ?_ | refine s_ex ?_ | refine s_nc ?_ | refine s_fa ?_ | refine s_ld ?_ | refine s_ia ?_ | refine s_sl ?_ | refine s_ad ?_ | refine s_sb ?_ | refine s_ln ?_ | refine s_cv ?_ | refine s_lss ?_ | refine s_leq ?_ | refine s_gtr ?_ | refine s_geq ?_ | refine s_eql ?_ | refine s_neq ?_ | refine s_eqlf ?_ | refine s_eqlp ?_ | refine s_eqln ?_ | refine s_neqf ?_ | refine s_neqp ?_ | refine s_neqn ?_ | refine At_seq ?_ | refine At_region ?_ | refine AtR_nil ?_ | refine At_block ?_ | refine At_inBlock ?_ | refine At_skip ?_ | refine At_cond_t rfl ?_ | refine At_cond_f rfl ?_ | refine At_exit rfl ?_ | refine s_no rfl rfl rfl rfl ?_ | refine s_nou rfl rfl rfl ?_ | (refine s_yes rfl rfl rfl rfl ?_; first | refine g_mv ?_ | refine g_as ?_ | refine g_pt ?_ | refine g_pf ?_ | refine g_nt ?_ | refine g_ex ?_ | refine g_nc ?_ | refine g_fa ?_ | refine g_ld ?_ | refine g_ia ?_ | refine g_sl ?_ | refine g_ad ?_ | refine g_sb ?_ | refine g_ln ?_ | refine g_cv ?_ | refine g_lss ?_ | refine g_leq ?_ | refine g_gtr ?_ | refine g_geq ?_ | refine g_eql ?_ | refine g_neq ?_ | refine g_eqlf ?_ | refine g_eqlp ?_ | refine g_eqln ?_ | refine g_neqf ?_ | refine g_neqp ?_ | refine g_neqn ?_))
        refine s_call x_call (plain_calls ps _ hps) ?_; rintro e w4 ⟨rfl, k4⟩; refine ⟨_, rfl, ?_⟩; replace B3 := B3.kp k4 id; replace B5 := B5.kp k4 id; replace B6 := B6.kp k4 id; replace K3 := K3.trans k4; first | rw [decide_eq_true d6] | rw [decide_eq_false d6]
        repeat (first | refine AtR_nil ?_ | refine s_mv ?_ | refine s_as ?_ | refine s_pt ?_ | refine s_pf ?_ | refine s_nt ?_ | refine s_ex ?_ | refine s_nc ?_ | refine s_fa ?_ | refine s_ld ?_ | refine s_ia ?_ | refine s_sl ?_ | refine s_ad ?_ | refine s_sb ?_ | refine s_ln ?_ | refine s_cv ?_ | refine s_lss ?_ | refine s_leq ?_ | refine s_gtr ?_ | refine s_geq ?_ | refine s_eql ?_ | refine s_neq ?_ | refine s_eqlf ?_ | refine s_eqlp ?_ | refine s_eqln ?_ | refine s_neqf ?_ | refine s_neqp ?_ | refine s_neqn ?_ | refine At_seq ?_ | refine At_region ?_ | refine AtR_nil ?_ | refine At_block ?_ | refine At_inBlock ?_ | refine At_skip ?_ | refine At_cond_t rfl ?_ | refine At_cond_f rfl ?_ | refine At_exit rfl ?_ | refine s_no rfl rfl rfl rfl ?_ | refine s_nou rfl rfl rfl ?_ | (refine s_yes rfl rfl rfl rfl ?_; first | refine g_mv ?_ | refine g_as ?_ | refine g_pt ?_ | refine g_pf ?_ | refine g_nt ?_ | refine g_ex ?_ | refine g_nc ?_ | refine g_fa ?_ | refine g_ld ?_ | refine g_ia ?_ | refine g_sl ?_ | refine g_ad ?_ | refine g_sb ?_ | refine g_ln ?_ | refine g_cv ?_ | refine g_lss ?_ | refine g_leq ?_ | refine g_gtr ?_ | refine g_geq ?_ | refine g_eql ?_ | refine g_neq ?_ | refine g_eqlf ?_ | refine g_eqlp ?_ | refine g_eqln ?_ | refine g_neqf ?_ | refine g_neqp ?_ | refine g_neqn ?_))
        refine s_val (x_build rfl zeros_built) ?_
        refine AtR_go rfl (AtG_store_fl (ks := K42) rfl rfl B6 rfl rfl (by assumption) rfl fun w4 e4 => ?_)
        obtain ⟨B, hR⟩ := fin _ w4 zeros72 19 K3 e4 zl hs
        repeat (first | refine AtR_nil ?_ | refine s_mv ?_ | refine s_as ?_ | refine s_pt ?_ | refine s_pf ?_ | refine s_nt ?_ | refine s_ex ?_ | refine s_nc ?_ | refine s_fa ?_ | refine s_ld ?_ | refine s_ia ?_ | refine s_sl ?_ | refine s_ad ?_ | refine s_sb ?_ | refine s_ln ?_ | refine s_cv ?_ | refine s_lss ?_ | refine s_leq ?_ | refine s_gtr ?_ | refine s_geq ?_ | refine s_eql ?_ | refine s_neq ?_ | refine s_eqlf ?_ | refine s_eqlp ?_ | refine s_eqln ?_ | refine s_neqf ?_ | refine s_neqp ?_ | refine s_neqn ?_ | refine At_seq ?_ | refine At_region ?_ | refine AtR_nil ?_ | refine At_block ?_ | refine At_inBlock ?_ | refine At_skip ?_ | refine At_cond_t rfl ?_ | refine At_cond_f rfl ?_ | refine At_exit rfl ?_ | refine s_no rfl rfl rfl rfl ?_ | refine s_nou rfl rfl rfl ?_ | (refine s_yes rfl rfl rfl rfl ?_; first | refine g_mv ?_ | refine g_as ?_ | refine g_pt ?_ | refine g_pf ?_ | refine g_nt ?_ | refine g_ex ?_ | refine g_nc ?_ | refine g_fa ?_ | refine g_ld ?_ | refine g_ia ?_ | refine g_sl ?_ | refine g_ad ?_ | refine g_sb ?_ | refine g_ln ?_ | refine g_cv ?_ | refine g_lss ?_ | refine g_leq ?_ | refine g_gtr ?_ | refine g_geq ?_ | refine g_eql ?_ | refine g_neq ?_ | refine g_eqlf ?_ | refine g_eqlp ?_ | refine g_eqln ?_ | refine g_neqf ?_ | refine g_neqp ?_ | refine g_neqn ?_))
        exact At_ret_cell2 Tryd.func65 rfl rfl B (by rw [mkI_length (by assumption)]; rfl) rfl hR
    · have hs : setS ps items qs = (layI ps 21 qs, 0) := by rw [setS, if_neg c1, if_neg d4, if_neg (by simpa using d6), if_neg d7]
      have hll : K42.length = (layI ps 21 qs).length := by
        have h1 : 72 = ps.length := hps
        have h2 : 17 = qs.length := hqs
        show 72 = _
        rw [layI_length (by omega)]; exact h1
      by_cases d5 : qs.getD 0 0 = 16
      all_goals
        repeat (first | refine AtR_nil ?_ | refine s_mv ?_ | refine s_as ?_ | refine s_pt ?_ | refine s_pf ?_ | refine s_nt ?_ | refine s_ex ?_ | refine s_nc ?_ | refine s_fa ?_ | refine s_ld ?_ | refine s_ia ?_ | refine s_sl ?_ | refine s_ad ?_ | refine s_sb ?_ | refine s_ln ?_ | refine s_cv ?_ | refine s_lss ?_ | refine s_leq ?_ | refine s_gtr ?_ | refine s_geq ?_ | refine s_eql ?_ | refine s_neq ?_ | refine s_eqlf ?_ | refine s_eqlp ?_ | refine s_eqln ?_ | refine s_neqf ?_ | refine s_neqp ?_ | refine s_neqn ?_ | refine At_seq ?_ | refine At_region ?_ | refine AtR_nil ?_ | refine At_block ?_ | refine At_inBlock ?_ | refine At_skip ?_ | refine At_cond_t rfl ?_ | refine At_cond_f rfl ?_ | refine At_exit rfl ?_ | refine s_no rfl rfl rfl rfl ?_ | refine s_nou rfl rfl rfl ?_ | (refine s_yes rfl rfl rfl rfl ?_; first | refine g_mv ?_ | refine g_as ?_ | refine g_pt ?_ | refine g_pf ?_ | refine g_nt ?_ | refine g_ex ?_ | refine g_nc ?_ | refine g_fa ?_ | refine g_ld ?_ | refine g_ia ?_ | refine g_sl ?_ | refine g_ad ?_ | refine g_sb ?_ | refine g_ln ?_ | refine g_cv ?_ | refine g_lss ?_ | refine g_leq ?_ | refine g_gtr ?_ | refine g_geq ?_ | refine g_eql ?_ | refine g_neq ?_ | refine g_eqlf ?_ | refine g_eqlp ?_ | refine g_eqln ?_ | refine g_neqf ?_ | refine g_neqp ?_ | refine g_neqn ?_))
        refine s_call x_call (plain_calls ps _ hps) ?_; rintro e w4 ⟨rfl, k4⟩; refine ⟨_, rfl, ?_⟩; replace B3 := B3.kp k4 id; replace B5 := B5.kp k4 id; replace B6 := B6.kp k4 id; replace K3 := K3.trans k4; first | rw [decide_eq_true d6] | rw [decide_eq_false d6]
        repeat (first | refine AtR_nil ?_ | refine s_mv ?_ | refine s_as ?_ | refine s_pt ?_ | refine s_pf ?_ | refine s_nt ?_ | refine s_ex ?_ | refine s_nc ?_ | refine s_fa ?_ | refine s_ld ?_ | refine s_ia ?_ | refine s_sl ?_ | refine s_ad ?_ | refine s_sb ?_ | refine s_ln ?_ | refine s_cv ?_ | refine s_lss ?_ | refine s_leq ?_ | refine s_gtr ?_ | refine s_geq ?_ | refine s_eql ?_ | refine s_neq ?_ | refine s_eqlf ?_ | refine s_eqlp ?_ | refine s_eqln ?_ | refine s_neqf ?_ | refine s_neqp ?_ | refine s_neqn ?_ | refine At_seq ?_ | refine At_region ?_ | refine AtR_nil ?_ | refine At_block ?_ | refine At_inBlock ?_ | refine At_skip ?_ | refine At_cond_t rfl ?_ | refine At_cond_f rfl ?_ | refine At_exit rfl ?_ | refine s_no rfl rfl rfl rfl ?_ | refine s_nou rfl rfl rfl ?_ | (refine s_yes rfl rfl rfl rfl ?_; first | refine g_mv ?_ | refine g_as ?_ | refine g_pt ?_ | refine g_pf ?_ | refine g_nt ?_ | refine g_ex ?_ | refine g_nc ?_ | refine g_fa ?_ | refine g_ld ?_ | refine g_ia ?_ | refine g_sl ?_ | refine g_ad ?_ | refine g_sb ?_ | refine g_ln ?_ | refine g_cv ?_ | refine g_lss ?_ | refine g_leq ?_ | refine g_gtr ?_ | refine g_geq ?_ | refine g_eql ?_ | refine g_neq ?_ | refine g_eqlf ?_ | refine g_eqlp ?_ | refine g_eqln ?_ | refine g_neqf ?_ | refine g_neqp ?_ | refine g_neqn ?_))
        refine AtR_go rfl (AtG_store_fl (ks := K35) rfl rfl B3 rfl hps hqs rfl fun w5 e5 => ?_)
        replace B3 := e5.blk
        replace B6 := B6.eff e5 (by omega)
        have K5 : Kp No w w5 := (‹Kp No w w4›).trans' (e5.kp (S := fun j => j = b3) (.inl rfl)) (by rintro j rfl; right; omega)
        clear e5
        repeat (first | refine AtR_nil ?_ | refine s_mv ?_ | refine s_as ?_ | refine s_pt ?_ | refine s_pf ?_ | refine s_nt ?_ | refine s_ex ?_ | refine s_nc ?_ | refine s_fa ?_ | refine s_ld ?_ | refine s_ia ?_ | refine s_sl ?_ | refine s_ad ?_ | refine s_sb ?_ | refine s_ln ?_ | refine s_cv ?_ | refine s_lss ?_ | refine s_leq ?_ | refine s_gtr ?_ | refine s_geq ?_ | refine s_eql ?_ | refine s_neq ?_ | refine s_eqlf ?_ | refine s_eqlp ?_ | refine s_eqln ?_ | refine s_neqf ?_ | refine s_neqp ?_ | refine s_neqn ?_ | refine At_seq ?_ | refine At_region ?_ | refine AtR_nil ?_ | refine At_block ?_ | refine At_inBlock ?_ | refine At_skip ?_ | refine At_cond_t rfl ?_ | refine At_cond_f rfl ?_ | refine At_exit rfl ?_ | refine s_no rfl rfl rfl rfl ?_ | refine s_nou rfl rfl rfl ?_ | (refine s_yes rfl rfl rfl rfl ?_; first | refine g_mv ?_ | refine g_as ?_ | refine g_pt ?_ | refine g_pf ?_ | refine g_nt ?_ | refine g_ex ?_ | refine g_nc ?_ | refine g_fa ?_ | refine g_ld ?_ | refine g_ia ?_ | refine g_sl ?_ | refine g_ad ?_ | refine g_sb ?_ | refine g_ln ?_ | refine g_cv ?_ | refine g_lss ?_ | refine g_leq ?_ | refine g_gtr ?_ | refine g_geq ?_ | refine g_eql ?_ | refine g_neq ?_ | refine g_eqlf ?_ | refine g_eqlp ?_ | refine g_eqln ?_ | refine g_neqf ?_ | refine g_neqp ?_ | refine g_neqn ?_))
        refine AtR_go rfl (AtG_store_fl (ks := K42) rfl rfl B6 rfl rfl hll rfl fun w6 e6 => ?_)
        have h := e6.blk
        rw [over_zeros hll] at h
        repeat (first | refine AtR_nil ?_ | refine s_mv ?_ | refine s_as ?_ | refine s_pt ?_ | refine s_pf ?_ | refine s_nt ?_ | refine s_ex ?_ | refine s_nc ?_ | refine s_fa ?_ | refine s_ld ?_ | refine s_ia ?_ | refine s_sl ?_ | refine s_ad ?_ | refine s_sb ?_ | refine s_ln ?_ | refine s_cv ?_ | refine s_lss ?_ | refine s_leq ?_ | refine s_gtr ?_ | refine s_geq ?_ | refine s_eql ?_ | refine s_neq ?_ | refine s_eqlf ?_ | refine s_eqlp ?_ | refine s_eqln ?_ | refine s_neqf ?_ | refine s_neqp ?_ | refine s_neqn ?_ | refine At_seq ?_ | refine At_region ?_ | refine AtR_nil ?_ | refine At_block ?_ | refine At_inBlock ?_ | refine At_skip ?_ | refine At_cond_t rfl ?_ | refine At_cond_f rfl ?_ | refine At_exit rfl ?_ | refine s_no rfl rfl rfl rfl ?_ | refine s_nou rfl rfl rfl ?_ | (refine s_yes rfl rfl rfl rfl ?_; first | refine g_mv ?_ | refine g_as ?_ | refine g_pt ?_ | refine g_pf ?_ | refine g_nt ?_ | refine g_ex ?_ | refine g_nc ?_ | refine g_fa ?_ | refine g_ld ?_ | refine g_ia ?_ | refine g_sl ?_ | refine g_ad ?_ | refine g_sb ?_ | refine g_ln ?_ | refine g_cv ?_ | refine g_lss ?_ | refine g_leq ?_ | refine g_gtr ?_ | refine g_geq ?_ | refine g_eql ?_ | refine g_neq ?_ | refine g_eqlf ?_ | refine g_eqlp ?_ | refine g_eqln ?_ | refine g_neqf ?_ | refine g_neqp ?_ | refine g_neqn ?_))
        exact At_ret_cell2 Tryd.func65 rfl rfl h (by rw [mkI_length hll]; rfl) rfl ⟨by rw [hs]; rfl, K5.trans' (e6.kp (S := fun j => j = b6) (.inl rfl)) (by rintro j rfl; right; omega)⟩
  · have hs : setS ps items qs = (zeros72, 17) := by rw [setS, if_neg c1, if_neg d4, if_pos d6]
    by_cases d5 : qs.getD 0 0 = 16
    all_goals
      repeat (first | refine AtR_nil ?_ | refine s_mv ?_ | refine s_as ?_ | refine s_pt ?_ | refine s_pf ?_ | refine s_nt ?_ | refine s_ex ?_ | refine s_nc ?_ | refine s_fa ?_ | refine s_ld ?_ | refine s_ia ?_ | refine s_sl ?_ | refine s_ad ?_ | refine s_sb ?_ | refine s_ln ?_ | refine s_cv ?_ | refine s_lss ?_ | refine s_leq ?_ | refine s_gtr ?_ | refine s_geq ?_ | refine s_eql ?_ | refine s_neq ?_ | refine s_eqlf ?_ | refine s_eqlp ?_ | refine s_eqln ?_ | refine s_neqf ?_ | refine s_neqp ?_ | refine s_neqn ?_ | refine At_seq ?_ | refine At_region ?_ | refine AtR_nil ?_ | refine At_block ?_ | refine At_inBlock ?_ | refine At_skip ?_ | refine At_cond_t rfl ?_ | refine At_cond_f rfl ?_ | refine At_exit rfl ?_ | refine s_no rfl rfl rfl rfl ?_ | refine s_nou rfl rfl rfl ?_ | (refine s_yes rfl rfl rfl rfl ?_; first | refine g_mv ?_ | refine g_as ?_ | refine g_pt ?_ | refine g_pf ?_ | refine g_nt ?_ | refine g_ex ?_ | refine g_nc ?_ | refine g_fa ?_ | refine g_ld ?_ | refine g_ia ?_ | refine g_sl ?_ | refine g_ad ?_ | refine g_sb ?_ | refine g_ln ?_ | refine g_cv ?_ | refine g_lss ?_ | refine g_leq ?_ | refine g_gtr ?_ | refine g_geq ?_ | refine g_eql ?_ | refine g_neq ?_ | refine g_eqlf ?_ | refine g_eqlp ?_ | refine g_eqln ?_ | refine g_neqf ?_ | refine g_neqp ?_ | refine g_neqn ?_))
      refine s_call x_call (plain_calls ps _ hps) ?_; rintro e w4 ⟨rfl, k4⟩; refine ⟨_, rfl, ?_⟩; replace B3 := B3.kp k4 id; replace B5 := B5.kp k4 id; replace B6 := B6.kp k4 id; replace K3 := K3.trans k4; first | rw [decide_eq_true d6] | rw [decide_eq_false d6]
      repeat (first | refine AtR_nil ?_ | refine s_mv ?_ | refine s_as ?_ | refine s_pt ?_ | refine s_pf ?_ | refine s_nt ?_ | refine s_ex ?_ | refine s_nc ?_ | refine s_fa ?_ | refine s_ld ?_ | refine s_ia ?_ | refine s_sl ?_ | refine s_ad ?_ | refine s_sb ?_ | refine s_ln ?_ | refine s_cv ?_ | refine s_lss ?_ | refine s_leq ?_ | refine s_gtr ?_ | refine s_geq ?_ | refine s_eql ?_ | refine s_neq ?_ | refine s_eqlf ?_ | refine s_eqlp ?_ | refine s_eqln ?_ | refine s_neqf ?_ | refine s_neqp ?_ | refine s_neqn ?_ | refine At_seq ?_ | refine At_region ?_ | refine AtR_nil ?_ | refine At_block ?_ | refine At_inBlock ?_ | refine At_skip ?_ | refine At_cond_t rfl ?_ | refine At_cond_f rfl ?_ | refine At_exit rfl ?_ | refine s_no rfl rfl rfl rfl ?_ | refine s_nou rfl rfl rfl ?_ | (refine s_yes rfl rfl rfl rfl ?_; first | refine g_mv ?_ | refine g_as ?_ | refine g_pt ?_ | refine g_pf ?_ | refine g_nt ?_ | refine g_ex ?_ | refine g_nc ?_ | refine g_fa ?_ | refine g_ld ?_ | refine g_ia ?_ | refine g_sl ?_ | refine g_ad ?_ | refine g_sb ?_ | refine g_ln ?_ | refine g_cv ?_ | refine g_lss ?_ | refine g_leq ?_ | refine g_gtr ?_ | refine g_geq ?_ | refine g_eql ?_ | refine g_neq ?_ | refine g_eqlf ?_ | refine g_eqlp ?_ | refine g_eqln ?_ | refine g_neqf ?_ | refine g_neqp ?_ | refine g_neqn ?_))
      refine s_val (x_build rfl zeros_built) ?_
      refine AtR_go rfl (AtG_store_fl (ks := K42) rfl rfl B6 rfl rfl (by assumption) rfl fun w4 e4 => ?_)
      obtain ⟨B, hR⟩ := fin _ w4 zeros72 17 K3 e4 zl hs
      repeat (first | refine AtR_nil ?_ | refine s_mv ?_ | refine s_as ?_ | refine s_pt ?_ | refine s_pf ?_ | refine s_nt ?_ | refine s_ex ?_ | refine s_nc ?_ | refine s_fa ?_ | refine s_ld ?_ | refine s_ia ?_ | refine s_sl ?_ | refine s_ad ?_ | refine s_sb ?_ | refine s_ln ?_ | refine s_cv ?_ | refine s_lss ?_ | refine s_leq ?_ | refine s_gtr ?_ | refine s_geq ?_ | refine s_eql ?_ | refine s_neq ?_ | refine s_eqlf ?_ | refine s_eqlp ?_ | refine s_eqln ?_ | refine s_neqf ?_ | refine s_neqp ?_ | refine s_neqn ?_ | refine At_seq ?_ | refine At_region ?_ | refine AtR_nil ?_ | refine At_block ?_ | refine At_inBlock ?_ | refine At_skip ?_ | refine At_cond_t rfl ?_ | refine At_cond_f rfl ?_ | refine At_exit rfl ?_ | refine s_no rfl rfl rfl rfl ?_ | refine s_nou rfl rfl rfl ?_ | (refine s_yes rfl rfl rfl rfl ?_; first | refine g_mv ?_ | refine g_as ?_ | refine g_pt ?_ | refine g_pf ?_ | refine g_nt ?_ | refine g_ex ?_ | refine g_nc ?_ | refine g_fa ?_ | refine g_ld ?_ | refine g_ia ?_ | refine g_sl ?_ | refine g_ad ?_ | refine g_sb ?_ | refine g_ln ?_ | refine g_cv ?_ | refine g_lss ?_ | refine g_leq ?_ | refine g_gtr ?_ | refine g_geq ?_ | refine g_eql ?_ | refine g_neq ?_ | refine g_eqlf ?_ | refine g_eqlp ?_ | refine g_eqln ?_ | refine g_neqf ?_ | refine g_neqp ?_ | refine g_neqn ?_))
      exact At_ret_cell2 Tryd.func65 rfl rfl B (by rw [mkI_length (by assumption)]; rfl) rfl hR

end Go.Proofs.YtfngacepjcdlnaaDoor

namespace Go.Proofs.YtfngacepjcdlnaaDoor
open Go Go.Kx
abbrev d0 : List Int := 2 :: List.replicate 71 0
abbrev q0 : List Int := 16 :: 1 :: List.replicate 15 0
theorem d0_built : Tryd.prog.built 42 [(0, .int .i64 2)] = some (mkI K42 d0).toArray := by kernel_rfl
theorem k0_built : Tryd.prog.built 22 [(0, .int .u8 1)] = some (mkI K22 (1 :: List.replicate 15 0)).toArray := by kernel_rfl
theorem q0_built : Tryd.prog.built 35 [(0, .int .i64 16), (1, .agg (mkI K22 (1 :: List.replicate 15 0)).toArray)] = some (mkI K35 q0).toArray := by kernel_rfl
abbrev x0 : List Int := layI d0 21 q0
theorem d0_len : K42.length = d0.length := rfl
theorem q0_len : K35.length = q0.length := rfl
theorem x0_len : K42.length = x0.length := rfl
theorem set1 : setS d0 1 q0 = (zeros72, 19) := by decide
theorem set2 : setS d0 0 q0 = (x0, 0) := by decide
theorem fit1 : fitsS d0 x0 = 0 := by decide
theorem fit2 : fitsS x0 d0 = 18 := by decide
theorem pol0 : (x0.drop 21).take 17 = q0 := by decide

--@def K42s := AtG_store_fl (ks := K42) rfl rfl
--@def A42 := AtG_alloc_fl (ks := K42) (z := z42) rfl
--@def ex2 := refine s_val (x_move rfl) ?_; refine s_val (x_extract (vs := [_, _]) rfl rfl) ?_; refine s_val (x_extract (vs := [_, _]) rfl rfl) ?_
set_option maxRecDepth 100000 in
set_option maxHeartbeats 8000000 in
theorem awake_calls (w : World) : Calls Tryd.prog 16 #[] w fun e w' => e = .returned (.bool true) ∧ Kp No w w' := by
  refine calls_at (n := 46) Tryd.func16 rfl rfl (by simp) ?_
  obtain ⟨D0, hD0⟩ : ∃ D : List Int, D = d0 := ⟨_, rfl⟩
  obtain ⟨Q0, hQ0⟩ : ∃ D : List Int, D = q0 := ⟨_, rfl⟩
  obtain ⟨X0, hX0⟩ : ∃ D : List Int, D = x0 := ⟨_, rfl⟩
  obtain ⟨Z0, hZ0⟩ : ∃ D : List Int, D = zeros72 := ⟨_, rfl⟩
  have bD := d0_built
  have bQ := q0_built
  have l0 := d0_len
  have l1 := q0_len
  have l2 := x0_len
  have lz := zeros_len
  have hs1 := set1
  have hs2 := set2
  have hf1 := fit1
  have hf2 := fit2
  have hp := pol0
  rw [← hD0] at bD l0 hs1 hs2 hf1 hf2
  rw [← hQ0] at bQ l1 hs1 hs2 hp
  rw [← hX0] at l2 hs2 hf1 hf2 hp
  rw [← hZ0] at lz hs1
  clear hD0 hQ0 hX0 hZ0
  have hpl : ((X0.drop 21).take 17).length = K35.length := by rw [hp]; exact l1.symm
  have l1s := l1.symm
  have hq17 : layI (List.replicate 17 0) 0 Q0 = Q0 := by
    have h : 17 = Q0.length := l1
    simp [layI]
    omega

  (refine At_seq ?_; refine At_region ?_; refine s_as ?_; refine AtR_nil ?_; refine At_seq ?_; refine At_region ?_)
  refine s_val (x_build rfl bD) ?_
  refine AtR_go rfl (AtG_alloc_fl (ks := K42) (z := z42) rfl fun b1 w1 hb1 e1 => ?_)
  have z1 := e1.size; have s1 := e1.lt
  have Bb1 : Blk w1 b1 42 (0, 0) (mkI K42 (List.replicate K42.length 0)) := e1.here
  have K1 : Kp No w w1 := e1.kp (by first | (right; omega) | (left; first | assumption | rfl | simp))
  clear e1
  refine AtR_go rfl (AtG_store_fl (ks := K42) rfl rfl Bb1 rfl rfl l0 rfl fun w2 e2 => ?_)
  have z2 := e2.size
  replace Bb1 : Blk w2 b1 42 (0, 0) (mkI K42 D0) := by rw [← over_zeros l0]; exact e2.here
  have K2 : Kp No w w2 := K1.trans' (e2.kp (S := fun j => j = b1) (.inl rfl)) (by rintro j rfl; first | (right; omega) | (left; first | assumption | rfl | simp))
  clear e2 K1
  (refine AtR_nil ?_; refine At_seq ?_; refine At_region ?_)
  refine s_val (x_build rfl k0_built) ?_
  refine s_val (x_build rfl bQ) ?_
  refine AtR_go rfl (AtG_alloc fun b2 w3 hb2 e3 => ?_)
  have z3 := e3.size; have s3 := e3.lt
  replace Bb1 := Bb1.eff e3 (by omega)
  have Bb2 : Blk w3 b2 35 (0, 0) (mkI K35 (List.replicate 17 0)) := e3.here
  have K3 : Kp No w w3 := K2.trans' (e3.kp (S := fun j => j = b2) (.inl rfl)) (by rintro j rfl; first | (right; omega) | (left; first | assumption | rfl | simp))
  clear e3 K2
  refine AtR_go rfl (AtG_store_fl (ks := K35) rfl rfl Bb2 rfl rfl l1 rfl fun w4 e4 => ?_)
  have z4 := e4.size
  replace Bb1 := Bb1.eff e4 (by omega)
  replace Bb2 : Blk w4 b2 35 (0, 0) (mkI K35 Q0) := by rw [← hq17]; exact e4.here
  have K4 : Kp No w w4 := K3.trans' (e4.kp (S := fun j => j = b2) (.inl rfl)) (by rintro j rfl; first | (right; omega) | (left; first | assumption | rfl | simp))
  clear e4 K3
  (refine AtR_nil ?_; refine At_seq ?_; refine At_region ?_; refine s_ld ?_; refine s_ld ?_)
  refine s_call x_call (set_calls D0 1 Q0 _ l0 l1) ?_
  rintro _ w5 ⟨rfl, k5⟩
  refine ⟨_, rfl, ?_⟩
  have z5 := k5.size
  replace Bb1 := Bb1.kp k5 (id)
  replace Bb2 := Bb2.kp k5 (id)
  have K5 := K4.trans k5
  clear k5 K4
  rw [hs1]
  refine s_val (x_move rfl) ?_; refine s_val (x_extract (vs := [_, _]) rfl rfl) ?_; refine s_val (x_extract (vs := [_, _]) rfl rfl) ?_
  refine AtR_go rfl (AtG_alloc_fl (ks := K42) (z := z42) rfl fun b3 w6 hb3 e6 => ?_)
  have z6 := e6.size; have s6 := e6.lt
  replace Bb1 := Bb1.eff e6 (by omega)
  replace Bb2 := Bb2.eff e6 (by omega)
  have Bb3 : Blk w6 b3 42 (0, 0) (mkI K42 (List.replicate K42.length 0)) := e6.here
  have K6 : Kp No w w6 := K5.trans' (e6.kp (S := fun j => j = b3) (.inl rfl)) (by rintro j rfl; first | (right; omega) | (left; first | assumption | rfl | simp))
  clear e6 K5
  refine AtR_go rfl (AtG_store_fl (ks := K42) rfl rfl Bb3 rfl rfl lz rfl fun w7 e7 => ?_)
  have z7 := e7.size
  replace Bb1 := Bb1.eff e7 (by omega)
  replace Bb2 := Bb2.eff e7 (by omega)
  replace Bb3 : Blk w7 b3 42 (0, 0) (mkI K42 Z0) := by rw [← over_zeros lz]; exact e7.here
  have K7 : Kp No w w7 := K6.trans' (e7.kp (S := fun j => j = b3) (.inl rfl)) (by rintro j rfl; first | (right; omega) | (left; first | assumption | rfl | simp))
  clear e7 K6
  (refine s_as ?_; refine AtR_nil ?_; refine At_seq ?_; refine At_region ?_; refine s_ld ?_; refine s_ld ?_)
  refine s_call x_call (set_calls D0 0 Q0 _ l0 l1) ?_
  rintro _ w8 ⟨rfl, k8⟩
  refine ⟨_, rfl, ?_⟩
  have z8 := k8.size
  replace Bb1 := Bb1.kp k8 (id)
  replace Bb2 := Bb2.kp k8 (id)
  replace Bb3 := Bb3.kp k8 (id)
  have K8 := K7.trans k8
  clear k8 K7
  rw [hs2]
  refine s_val (x_move rfl) ?_; refine s_val (x_extract (vs := [_, _]) rfl rfl) ?_; refine s_val (x_extract (vs := [_, _]) rfl rfl) ?_
  refine AtR_go rfl (AtG_alloc_fl (ks := K42) (z := z42) rfl fun b5 w9 hb5 e9 => ?_)
  have z9 := e9.size; have s9 := e9.lt
  replace Bb1 := Bb1.eff e9 (by omega)
  replace Bb2 := Bb2.eff e9 (by omega)
  replace Bb3 := Bb3.eff e9 (by omega)
  have Bb5 : Blk w9 b5 42 (0, 0) (mkI K42 (List.replicate K42.length 0)) := e9.here
  have K9 : Kp No w w9 := K8.trans' (e9.kp (S := fun j => j = b5) (.inl rfl)) (by rintro j rfl; first | (right; omega) | (left; first | assumption | rfl | simp))
  clear e9 K8
  refine AtR_go rfl (AtG_store_fl (ks := K42) rfl rfl Bb5 rfl rfl l2 rfl fun w10 e10 => ?_)
  have z10 := e10.size
  replace Bb1 := Bb1.eff e10 (by omega)
  replace Bb2 := Bb2.eff e10 (by omega)
  replace Bb3 := Bb3.eff e10 (by omega)
  replace Bb5 : Blk w10 b5 42 (0, 0) (mkI K42 X0) := by rw [← over_zeros l2]; exact e10.here
  have K10 : Kp No w w10 := K9.trans' (e10.kp (S := fun j => j = b5) (.inl rfl)) (by rintro j rfl; first | (right; omega) | (left; first | assumption | rfl | simp))
  clear e10 K9
  (refine s_as ?_; refine AtR_nil ?_; refine At_seq ?_; refine At_region ?_; refine s_ld ?_; refine s_ld ?_)
  refine s_call x_call (fits_calls D0 X0 _ l0 l2) ?_
  rintro _ w11 ⟨rfl, k11⟩
  refine ⟨_, rfl, ?_⟩
  have z11 := k11.size
  replace Bb1 := Bb1.kp k11 (id)
  replace Bb2 := Bb2.kp k11 (id)
  replace Bb3 := Bb3.kp k11 (id)
  replace Bb5 := Bb5.kp k11 (id)
  have K11 := K10.trans k11
  clear k11 K10
  rw [hf1]
  (refine s_eql ?_; refine s_mv ?_; refine s_yes rfl rfl rfl rfl ?_; refine g_ld ?_; refine s_yes rfl rfl rfl rfl ?_; refine g_ld ?_)
  refine s_yes rfl rfl rfl rfl ?_
  refine g_call x_call (fits_calls X0 D0 _ l2 l0) ?_
  rintro _ w12 ⟨rfl, k12⟩
  refine ⟨_, rfl, ?_⟩
  have z12 := k12.size
  replace Bb1 := Bb1.kp k12 (id)
  replace Bb2 := Bb2.kp k12 (id)
  replace Bb3 := Bb3.kp k12 (id)
  replace Bb5 := Bb5.kp k12 (id)
  have K12 := K11.trans k12
  clear k12 K11
  rw [hf2]
  (refine s_yes rfl rfl rfl rfl ?_; refine g_eql ?_; refine s_pt ?_; refine s_mv ?_; refine s_yes rfl rfl rfl rfl ?_; refine g_mv ?_; refine s_yes rfl rfl rfl rfl ?_; refine g_eql ?_; refine s_pt ?_; refine s_mv ?_; refine s_yes rfl rfl rfl rfl ?_; refine g_mv ?_; refine s_yes rfl rfl rfl rfl ?_; refine g_eql ?_; refine s_pt ?_; refine s_mv ?_; refine s_yes rfl rfl rfl rfl ?_; refine g_fa ?_; refine s_yes rfl rfl rfl rfl ?_; refine g_ld ?_; refine s_yes rfl rfl rfl rfl ?_; refine g_ld ?_; refine s_yes rfl rfl rfl rfl ?_; refine g_eqlf ?_; refine s_pt ?_; refine s_as ?_; refine AtR_nil ?_)
  refine At_ret1 Tryd.func16 rfl (by conv => lhs; whnf) ?_
  exact ⟨rfl, by assumption⟩

end Go.Proofs.YtfngacepjcdlnaaDoor
