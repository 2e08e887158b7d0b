/- errors.As and errors.Is of a number that is an error; what a line's error comes to: walked. -/
import Derived.Test.YtgobmphkakmdmaaDoorUe
set_option linter.unusedVariables false
--@def PT := 57
--@def FT := 55
--@def EN := 25
--@def RT := 85
--@def VT := 69
namespace Go.Proofs.YtgobmphkakmdmaaDoor
open Go Go.Kx Go.Extern
set_option maxRecDepth 100000 in
set_option maxHeartbeats 4000000 in
theorem as33_calls (n : Int) (t v : Value) (w : World) :
    Calls Tryd.prog 33 #[.iface 25 (.int .i64 n), t, v, .iface 85 (.agg #[.pointer (some ⟨5, 55, none⟩)])] w fun e w' => e = .returned (.bool false) ∧ Kp No w w' := by
  refine calls_at (n := 62) Tryd.func33 rfl rfl (by simp) ?_
  (refine At_seq ?_; refine At_region ?_)
  refine AtR_go rfl (G_val (r_box rfl) ?_)
  rintro _ w1 ⟨b1, rfl, hb1, e1⟩
  have k1 : Kp No w w1 := e1.kp (.inr (by omega))
  clear e1
  (refine s_as ?_; refine AtR_nil ?_; refine At_block ?_)
  refine At_loop ?_
  (refine At_block ?_; refine At_seq ?_; refine At_seq ?_; refine At_region ?_; refine s_mv ?_)
  refine s_val (x_callX rfl (e_typeOf n _)) ?_
  (refine s_mv ?_)
  refine s_val (x_invokeX (e_methodAssign _ _) rfl (e_assign _)) ?_
  (refine AtR_nil ?_; refine At_cond_f rfl ?_; refine At_skip ?_; refine At_seq ?_; refine At_seq ?_; refine At_region ?_; refine s_mv ?_)
  refine s_val (x_assert rfl (e_a89 n _)) ?_
  (refine s_mv ?_; refine s_ex ?_; refine s_ex ?_; refine s_as ?_; refine s_as ?_; refine AtR_nil ?_; refine At_seq ?_; refine At_region ?_; refine s_mv ?_; refine s_mv ?_; refine s_no rfl rfl rfl rfl ?_; refine s_no rfl rfl rfl rfl ?_; refine s_no rfl rfl rfl rfl ?_; refine s_pf ?_; refine AtR_nil ?_; refine At_cond_f rfl ?_; refine At_skip ?_; refine At_seq ?_; refine At_region ?_; refine s_mv ?_; refine AtR_nil ?_; refine At_block ?_; refine At_seq ?_; refine At_region ?_)
  refine s_val (x_assert rfl (e_a92 n _)) ?_
  (refine s_ex ?_; refine s_ex ?_; refine AtR_nil ?_; refine At_cond_f rfl ?_; refine At_seq ?_; refine At_region ?_)
  refine s_val (x_assert rfl (e_a94 n _)) ?_
  (refine s_ex ?_; refine s_ex ?_; refine AtR_nil ?_; refine At_cond_f rfl ?_; refine At_seq ?_; refine At_region ?_; refine s_as ?_; refine AtR_nil ?_; refine At_seq ?_; refine At_region ?_; refine s_as ?_; refine AtR_nil ?_)
  refine At_ret1 Tryd.func33 rfl (by conv => lhs; whnf) ?_
  exact ⟨rfl, k1⟩
set_option maxRecDepth 100000 in
set_option maxHeartbeats 4000000 in
theorem as_calls (n : Int) (b : Nat) (w : World) (h0 : ∃ fz, Blk w 0 72 fz [.iface 85 (.agg #[.pointer (some ⟨5, 42, none⟩)])]) :
    Calls Tryd.prog 21 #[.iface 25 (.int .i64 n), .iface 57 (.pointer (some ⟨b, 0, none⟩))] w fun e w' => e = .returned (.bool false) ∧ Kp No w w' := by
  refine calls_at (n := 42) Tryd.func21 rfl rfl (by simp) ?_
  (refine At_seq ?_; refine At_region ?_; refine s_as ?_; refine AtR_nil ?_; refine At_seq ?_; refine At_seq ?_; refine At_region ?_; refine s_mv ?_)
  refine s_val (x_eqlI (by kernel_rfl) rfl rfl) ?_
  (refine AtR_nil ?_; refine At_cond_f rfl ?_; refine At_skip ?_; refine At_seq ?_; refine At_seq ?_; refine At_region ?_; refine s_mv ?_)
  refine s_val (x_eqlI (by kernel_rfl) rfl rfl) ?_
  (refine AtR_nil ?_; refine At_cond_f rfl ?_; refine At_skip ?_; refine At_seq ?_; refine At_region ?_; refine s_mv ?_)
  refine s_val (x_callX rfl (e_valueOf _ _)) ?_
  have k1 : Kp No w (w.alloc (.cells #[.pointer (some ⟨b, 0, none⟩)] 57)) := (eff_push w _).kp (.inr (Nat.le_refl _))
  have B1 : Blk (w.alloc (.cells #[.pointer (some ⟨b, 0, none⟩)] 57)) w.heap.size 57 (0, 0) [.pointer (some ⟨b, 0, none⟩)] := (eff_push w _).here
  generalize w.alloc (.cells #[.pointer (some ⟨b, 0, none⟩)] 57) = w1 at *
  skip
  refine AtR_go rfl (G_val r_alloc ?_)
  rintro _ w2 ⟨b2, rfl, hb2, e2⟩
  have B2 : Blk w2 b2 69 (0, 0) [.pointer none, .pointer none, .int .u64 0] := e2.blk
  have k2 : Kp No w1 w2 := e2.kp (.inr (by omega))
  clear e2
  skip
  refine AtR_go rfl (G_skip (r_store_all (s := 3) (vs := [.pointer (some ⟨5, 57, none⟩), .pointer (some ⟨w.heap.size, 0, none⟩), .int .u64 150]) rfl rfl B2 rfl rfl rfl) fun w3 e3 => ?_)
  have B3 := e3.blk
  have k3 : Kp (fun j => j = b2) w2 w3 := e3.kp (.inl rfl)
  have B1' := (B1.kp k2 fun h => h).kp k3 (by have := B1.lt; omega)
  clear e3
  have K3 : Kp No w w3 := (k1.trans k2).trans' k3 (by rintro j rfl; right; have := k1.size; omega)
  obtain ⟨fz, h0⟩ := h0
  replace h0 := h0.kp K3 fun h => h
  (refine AtR_nil ?_; refine At_seq ?_; refine At_region ?_)
  refine s_val (x_load_all rfl B3 rfl) ?_
  refine s_val (x_callX rfl (e_type _ _)) ?_
  (refine s_as ?_; refine AtR_nil ?_; refine At_seq ?_; refine At_seq ?_; refine At_region ?_; refine s_mv ?_)
  refine s_val (x_invokeX (e_methodKind _ _) rfl (e_kindP _)) ?_
  (refine s_neq ?_; refine s_mv ?_)
  refine s_yes rfl rfl rfl rfl ?_
  refine g_val (x_load_all rfl B3 rfl) ?_
  refine s_yes rfl rfl rfl rfl ?_
  refine g_val (x_callX rfl (e_isNil _ ⟨b, 0, none⟩ _ (by rw [B1'.cell]; rfl))) ?_
  (refine s_pf ?_; refine AtR_nil ?_; refine At_cond_f rfl ?_; refine At_skip ?_; refine At_seq ?_; refine At_region ?_; refine s_mv ?_)
  refine s_val (x_invokeX (e_methodElem _ _) rfl (e_elem _)) ?_
  (refine s_as ?_; refine AtR_nil ?_; refine At_seq ?_; refine At_seq ?_; refine At_region ?_; refine s_mv ?_)
  refine s_val (x_invokeX (e_methodKind _ _) rfl (e_kindF _)) ?_
  (refine s_neq ?_; refine s_mv ?_; refine s_yes rfl rfl rfl rfl ?_; refine g_mv ?_; refine s_yes rfl rfl rfl rfl ?_; refine g_ld ?_)
  refine s_yes rfl rfl rfl rfl ?_
  refine g_val (x_invokeX (e_methodImplements _ _) rfl (e_implements _)) ?_
  (refine s_yes rfl rfl rfl rfl ?_; refine g_nt ?_; refine s_pt ?_; refine AtR_nil ?_; refine At_cond_f rfl ?_; refine At_skip ?_; refine At_seq ?_; refine At_region ?_; refine s_mv ?_; refine s_mv ?_)
  refine s_val (x_load_all rfl B3 rfl) ?_
  (refine s_mv ?_)
  refine s_call x_call (as33_calls n _ _ _) ?_
  rintro _ w4 ⟨rfl, k4⟩
  refine ⟨_, rfl, ?_⟩
  (refine s_as ?_; refine AtR_nil ?_)
  refine At_ret1 Tryd.func21 rfl (by conv => lhs; whnf) ?_
  exact ⟨rfl, K3.trans k4⟩
set_option maxRecDepth 100000 in
set_option maxHeartbeats 4000000 in
theorem is35_calls (n : Int) (hn : n = 2 ∨ n = 15) (w : World) :
    Calls Tryd.prog 35 #[.iface 25 (.int .i64 n), .iface 25 (.int .i64 15), .bool true] w fun e w' => e = .returned (.bool (decide (n = 15))) ∧ w = w' := by
  refine calls_at (n := 54) Tryd.func35 rfl rfl (by simp) ?_
  (refine At_seq ?_; refine At_region ?_; refine s_as ?_; refine AtR_nil ?_; refine At_block ?_)
  refine At_loop ?_
  (refine At_block ?_; refine At_seq ?_; refine At_seq ?_; refine At_region ?_; refine s_mv ?_; refine s_mv ?_; refine s_yes rfl rfl rfl rfl ?_; refine g_mv ?_; refine s_yes rfl rfl rfl rfl ?_; refine g_mv ?_)
  refine s_yes rfl rfl rfl rfl ?_
  rcases hn with rfl | rfl
  · refine g_val (x_bin rfl rfl (e_eq2 _)) ?_
    (refine s_pt ?_; refine AtR_nil ?_; refine At_cond_f rfl ?_; refine At_skip ?_; refine At_seq ?_; refine At_seq ?_; refine At_region ?_; refine s_mv ?_)
    refine s_val (x_assert rfl (e_a97 2 _)) ?_
    (refine s_mv ?_; refine s_ex ?_; refine s_ex ?_; refine s_as ?_; refine s_as ?_; refine AtR_nil ?_; refine At_seq ?_; refine At_region ?_; refine s_mv ?_; refine s_mv ?_; refine s_no rfl rfl rfl rfl ?_; refine s_no rfl rfl rfl rfl ?_; refine s_no rfl rfl rfl rfl ?_; refine s_pf ?_; refine AtR_nil ?_; refine At_cond_f rfl ?_; refine At_skip ?_; refine At_seq ?_; refine At_region ?_; refine s_mv ?_; refine AtR_nil ?_; refine At_block ?_; refine At_seq ?_; refine At_region ?_)
    refine s_val (x_assert rfl (e_a92 2 _)) ?_
    (refine s_ex ?_; refine s_ex ?_; refine AtR_nil ?_; refine At_cond_f rfl ?_; refine At_seq ?_; refine At_region ?_)
    refine s_val (x_assert rfl (e_a94 2 _)) ?_
    (refine s_ex ?_; refine s_ex ?_; refine AtR_nil ?_; refine At_cond_f rfl ?_; refine At_seq ?_; refine At_region ?_; refine s_as ?_; refine AtR_nil ?_; refine At_seq ?_; refine At_region ?_; refine s_as ?_; refine AtR_nil ?_)
    refine At_ret1 Tryd.func35 rfl (by conv => lhs; whnf) ?_
    exact ⟨rfl, rfl⟩
  · refine g_val (x_bin rfl rfl (e_eq15 _)) ?_
    (refine s_pt ?_; refine AtR_nil ?_; refine At_cond_t rfl ?_; refine At_seq ?_; refine At_region ?_; refine s_as ?_; refine AtR_nil ?_)
    refine At_ret1 Tryd.func35 rfl (by conv => lhs; whnf) ?_
    exact ⟨rfl, rfl⟩
set_option maxRecDepth 100000 in
set_option maxHeartbeats 4000000 in
theorem is_calls (n : Int) (hn : n = 2 ∨ n = 15) (w : World) :
    Calls Tryd.prog 22 #[.iface 25 (.int .i64 n), .iface 25 (.int .i64 15)] w fun e w' => e = .returned (.bool (decide (n = 15))) ∧ w = w' := by
  refine calls_at (n := 22) Tryd.func22 rfl rfl (by simp) ?_
  (refine At_seq ?_; refine At_region ?_; refine s_as ?_; refine AtR_nil ?_; refine At_seq ?_; refine At_seq ?_; refine At_region ?_; refine s_mv ?_)
  refine s_val (x_eqlI (by kernel_rfl) rfl rfl) ?_
  (refine s_mv ?_; refine s_yes rfl rfl rfl rfl ?_; refine g_mv ?_)
  refine s_yes rfl rfl rfl rfl ?_
  refine g_val (x_eqlI (by kernel_rfl) rfl rfl) ?_
  (refine s_pf ?_; refine AtR_nil ?_; refine At_cond_f rfl ?_; refine At_skip ?_; refine At_seq ?_; refine At_region ?_; refine s_mv ?_)
  refine s_val (x_callX rfl (e_typeOf 15 _)) ?_
  refine s_val (x_invokeX (e_methodComp _ _) rfl (e_comp _)) ?_
  (refine s_as ?_; refine AtR_nil ?_; refine At_seq ?_; refine At_region ?_; refine s_mv ?_; refine s_mv ?_; refine s_mv ?_)
  refine s_call x_call (is35_calls n hn _) ?_
  rintro _ _ ⟨rfl, rfl⟩
  refine ⟨_, rfl, ?_⟩
  (refine s_as ?_; refine AtR_nil ?_)
  refine At_ret1 Tryd.func22 rfl (by conv => lhs; whnf) ?_
  exact ⟨rfl, rfl⟩
set_option maxRecDepth 100000 in
set_option maxHeartbeats 4000000 in
theorem split_calls (n : Int) (hn : n = 2 ∨ n = 15) (w : World) (h0 : ∃ fz, Blk w 0 72 fz [.iface 85 (.agg #[.pointer (some ⟨5, 42, none⟩)])]) :
    Calls Tryd.prog 13 #[.iface 25 (.int .i64 n)] w fun e w' => e = .returned (.tuple #[.int .i64 0, .int .i64 n]) ∧ Kp No w w' := by
  refine calls_at (n := 18) Tryd.func13 rfl rfl (by simp) ?_
  (refine At_seq ?_; refine At_region ?_; refine s_as ?_; refine s_as ?_; refine AtR_nil ?_; refine At_seq ?_; refine At_region ?_)
  refine AtR_go rfl (G_val r_alloc ?_)
  rintro _ w1 ⟨b1, rfl, hb1, e1⟩
  have k1 : Kp No w w1 := e1.kp (.inr (by omega))
  clear e1
  obtain ⟨fz, h0⟩ := h0
  (refine AtR_nil ?_; refine At_seq ?_; refine At_region ?_; refine s_as ?_; refine AtR_nil ?_; refine At_seq ?_; refine At_seq ?_; refine At_region ?_; refine s_mv ?_)
  refine s_val (x_ifaceP rfl) ?_
  refine s_call x_call (as_calls n b1 _ ⟨fz, h0.kp k1 fun h => h⟩) ?_
  rintro _ w2 ⟨rfl, k2⟩
  refine ⟨_, rfl, ?_⟩
  (refine AtR_nil ?_; refine At_cond_f rfl ?_; refine At_skip ?_; refine At_seq ?_; refine At_seq ?_; refine At_region ?_; refine s_mv ?_)
  refine s_val (x_ifaceI rfl) ?_
  refine s_call x_call (is_calls n hn _) ?_
  rintro _ _ ⟨rfl, rfl⟩
  refine ⟨_, rfl, ?_⟩
  rcases hn with rfl | rfl
  · (refine AtR_nil ?_; refine At_cond_f rfl ?_; refine At_skip ?_; refine At_seq ?_; refine At_region ?_; refine s_mv ?_; refine s_as ?_; refine s_as ?_; refine AtR_nil ?_)
    refine At_ret2 Tryd.func13 rfl (by conv => lhs; whnf) (by conv => lhs; whnf) ?_
    exact ⟨rfl, k1.trans k2⟩
  · (refine AtR_nil ?_; refine At_cond_t rfl ?_; refine At_seq ?_; refine At_region ?_; refine s_mv ?_; refine s_as ?_; refine s_as ?_; refine AtR_nil ?_)
    refine At_ret2 Tryd.func13 rfl (by conv => lhs; whnf) (by conv => lhs; whnf) ?_
    exact ⟨rfl, k1.trans k2⟩
end Go.Proofs.YtgobmphkakmdmaaDoor
