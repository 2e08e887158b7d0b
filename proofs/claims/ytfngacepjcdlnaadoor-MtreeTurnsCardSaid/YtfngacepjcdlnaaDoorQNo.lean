/- Trees: Cut, over a store in memory. | Trees: what holds in the midst of the laws MtreeActs and MtreeTurns. -/
import Derived.Test.YtfngacepjcdlnaaDoorQNk
import Derived.Test.YtfngacepjcdlnaaDoorQMh
import Derived.Test.YtfngacepjcdlnaaDoorQNp
import Derived.Test.YtfngacepjcdlnaaDoorQPi
import Derived.Test.YtfngacepjcdlnaaDoorQKw
set_option linter.unusedVariables false
namespace Go.Proofs.YtfngacepjcdlnaaDoor
open Go Go.Kx Go.Kr Go.Mt
def cutV (key name : List UInt8) (st : St) (r : Pr) (d n : Nat) : List Value :=
 if (cutT key name st r d n).1.2 = 0 then trC (cutT key name st r d n).1.1 (d : Int) else trC Pr.zero 0
set_option maxRecDepth 100000 in
set_option maxHeartbeats 16000000 in
theorem Cut_wood (g sp bo : Nat) (key name : List UInt8) (st : St) (r : Pr) (d n : Nat) (w : World) {Ds Dg : Nat → Prop} (h : Wood w g sp bo key name st Ds Dg) (hr : r.wf) (hd : d ≤ 5) (hn : n < 9223372036854775808) (hsm : st.b.length ≤ 300000) :
  Calls Tryd.prog 56 #[.pointer (some ⟨g, 0, none⟩), .agg (trC r (d : Int)).toArray, .int .i64 (n : Int)] w fun e w' => e = .returned (.tuple #[.agg (cutV key name st r d n).toArray, .int .i64 ((cutT key name st r d n).1.2 : Int)]) ∧
   ∃ Ds', Wood w' g sp bo key name (cutS key name st r d n) Ds' Dg ∧ (∀ j, Ds' j → Ds j ∨ w.heap.size ≤ j) ∧ Kp Ds w w' := by
 refine calls_at (n := 42) Tryd.func56 rfl rfl (by simp) ?_
 have hl34 := trC_length hr (d : Int)
 have hr33 := prC_length hr
 have hgs := h.sep
 repeat (first | refine AtR_nil ?_ | refine s_mv ?_ | refine s_as ?_ | refine s_pt ?_ | refine s_pf ?_ | refine s_nt ?_ | refine s_ex ?_ | refine s_nc ?_ | refine s_fa ?_ | refine s_ia ?_ | refine s_lns ?_ | refine s_xw ?_ | refine s_aw ?_ | refine s_ow ?_ | refine s_dw ?_ | refine s_hl ?_ | refine s_hr ?_ | refine s_bw ?_ | refine s_wb ?_ | refine s_ng ?_ | refine s_ldw ?_ | refine s_iaa ?_ | refine s_qu ?_ | refine s_rm ?_ | refine s_ml ?_ | refine s_cp ?_ | refine s_ld ?_ | refine s_sl ?_ | refine s_ad ?_ | refine s_sb ?_ | refine s_ln ?_ | refine s_cv ?_ | refine s_lss ?_ | refine s_leq ?_ | refine s_gtr ?_ | refine s_geq ?_ | refine s_eql ?_ | refine s_neq ?_ | refine s_eqlf ?_ | refine s_eqlp ?_ | refine s_eqln ?_ | refine s_neqf ?_ | refine s_neqp ?_ | refine s_neqn ?_ | refine At_seq ?_ | refine At_region ?_ | refine AtR_nil ?_ | refine At_block ?_ | refine At_inBlock ?_ | refine At_skip ?_ | refine At_cond_t rfl ?_ | refine At_cond_f rfl ?_ | refine At_exit rfl ?_ | refine s_no rfl rfl rfl rfl ?_ | refine s_nou rfl rfl rfl ?_ | (refine s_yes rfl rfl rfl rfl ?_; first | refine g_mv ?_ | refine g_as ?_ | refine g_pt ?_ | refine g_pf ?_ | refine g_nt ?_ | refine g_ex ?_ | refine g_nc ?_ | refine g_fa ?_ | refine g_ld ?_ | refine g_ia ?_ | refine g_sl ?_ | refine g_ad ?_ | refine g_sb ?_ | refine g_ln ?_ | refine g_cv ?_ | refine g_lss ?_ | refine g_leq ?_ | refine g_gtr ?_ | refine g_geq ?_ | refine g_eql ?_ | refine g_neq ?_ | refine g_eqlf ?_ | refine g_eqlp ?_ | refine g_eqln ?_ | refine g_neqf ?_ | refine g_neqp ?_ | refine g_neqn ?_))
 refine AtR_go rfl (AtG_box rfl fun b4 w1 hb4 e1 => ?_)
 have B4 : Blk w1 b4 40 (0, 0) (trC r (d : Int)) := e1.blk
 have k1 : Kp No w w1 := e1.kp (.inr (by omega))
 clear e1
 refine AtR_go rfl (AtG_alloc fun b6 w2 hb6 e2 => ?_)
 have B6 : Blk w2 b6 40 (0, 0) z40 := e2.blk
 have k2 : Kp No w1 w2 := e2.kp (.inr (by omega))
 have z1 := k1.size
 have z2 := k2.size
 have l4 := B4.lt
 clear e2
 replace B4 := B4.kp k2 fun h => h
 repeat (first | refine AtR_nil ?_ | refine s_mv ?_ | refine s_as ?_ | refine s_pt ?_ | refine s_pf ?_ | refine s_nt ?_ | refine s_ex ?_ | refine s_nc ?_ | refine s_fa ?_ | refine s_ia ?_ | refine s_lns ?_ | refine s_xw ?_ | refine s_aw ?_ | refine s_ow ?_ | refine s_dw ?_ | refine s_hl ?_ | refine s_hr ?_ | refine s_bw ?_ | refine s_wb ?_ | refine s_ng ?_ | refine s_ldw ?_ | refine s_iaa ?_ | refine s_qu ?_ | refine s_rm ?_ | refine s_ml ?_ | refine s_cp ?_ | refine s_ld ?_ | refine s_sl ?_ | refine s_ad ?_ | refine s_sb ?_ | refine s_ln ?_ | refine s_cv ?_ | refine s_lss ?_ | refine s_leq ?_ | refine s_gtr ?_ | refine s_geq ?_ | refine s_eql ?_ | refine s_neq ?_ | refine s_eqlf ?_ | refine s_eqlp ?_ | refine s_eqln ?_ | refine s_neqf ?_ | refine s_neqp ?_ | refine s_neqn ?_ | refine At_seq ?_ | refine At_region ?_ | refine AtR_nil ?_ | refine At_block ?_ | refine At_inBlock ?_ | refine At_skip ?_ | refine At_cond_t rfl ?_ | refine At_cond_f rfl ?_ | refine At_exit rfl ?_ | refine s_no rfl rfl rfl rfl ?_ | refine s_nou rfl rfl rfl ?_ | (refine s_yes rfl rfl rfl rfl ?_; first | refine g_mv ?_ | refine g_as ?_ | refine g_pt ?_ | refine g_pf ?_ | refine g_nt ?_ | refine g_ex ?_ | refine g_nc ?_ | refine g_fa ?_ | refine g_ld ?_ | refine g_ia ?_ | refine g_sl ?_ | refine g_ad ?_ | refine g_sb ?_ | refine g_ln ?_ | refine g_cv ?_ | refine g_lss ?_ | refine g_leq ?_ | refine g_gtr ?_ | refine g_geq ?_ | refine g_eql ?_ | refine g_neq ?_ | refine g_eqlf ?_ | refine g_eqlp ?_ | refine g_eqln ?_ | refine g_neqf ?_ | refine g_neqp ?_ | refine g_neqn ?_))
 refine s_val (x_load_all rfl B4 hl34) ?_
 refine s_call x_call (right_calls r (d : Int) _ hr) ?_
 rintro _ w3 ⟨rfl, k3⟩
 refine ⟨_, rfl, ?_⟩
 rw [decide_eq_true (⟨by omega, by omega⟩ : 0 ≤ (d : Int) ∧ (d : Int) ≤ 5)]
 have hdeep := trC_deep hr (d : Int)
 have l6 := B6.lt
 repeat (first | refine AtR_nil ?_ | refine s_mv ?_ | refine s_as ?_ | refine s_pt ?_ | refine s_pf ?_ | refine s_nt ?_ | refine s_ex ?_ | refine s_nc ?_ | refine s_fa ?_ | refine s_ia ?_ | refine s_lns ?_ | refine s_xw ?_ | refine s_aw ?_ | refine s_ow ?_ | refine s_dw ?_ | refine s_hl ?_ | refine s_hr ?_ | refine s_bw ?_ | refine s_wb ?_ | refine s_ng ?_ | refine s_ldw ?_ | refine s_iaa ?_ | refine s_qu ?_ | refine s_rm ?_ | refine s_ml ?_ | refine s_cp ?_ | refine s_ld ?_ | refine s_sl ?_ | refine s_ad ?_ | refine s_sb ?_ | refine s_ln ?_ | refine s_cv ?_ | refine s_lss ?_ | refine s_leq ?_ | refine s_gtr ?_ | refine s_geq ?_ | refine s_eql ?_ | refine s_neq ?_ | refine s_eqlf ?_ | refine s_eqlp ?_ | refine s_eqln ?_ | refine s_neqf ?_ | refine s_neqp ?_ | refine s_neqn ?_ | refine At_seq ?_ | refine At_region ?_ | refine AtR_nil ?_ | refine At_block ?_ | refine At_inBlock ?_ | refine At_skip ?_ | refine At_cond_t rfl ?_ | refine At_cond_f rfl ?_ | refine At_exit rfl ?_ | refine s_no rfl rfl rfl rfl ?_ | refine s_nou rfl rfl rfl ?_ | (refine s_yes rfl rfl rfl rfl ?_; first | refine g_mv ?_ | refine g_as ?_ | refine g_pt ?_ | refine g_pf ?_ | refine g_nt ?_ | refine g_ex ?_ | refine g_nc ?_ | refine g_fa ?_ | refine g_ld ?_ | refine g_ia ?_ | refine g_sl ?_ | refine g_ad ?_ | refine g_sb ?_ | refine g_ln ?_ | refine g_cv ?_ | refine g_lss ?_ | refine g_leq ?_ | refine g_gtr ?_ | refine g_geq ?_ | refine g_eql ?_ | refine g_neq ?_ | refine g_eqlf ?_ | refine g_eqlp ?_ | refine g_eqln ?_ | refine g_neqf ?_ | refine g_neqp ?_ | refine g_neqn ?_))
 refine s_val (x_build rfl (built149 g)) ?_
 refine AtR_go rfl (AtG_box rfl fun c w4 hc4 e4 => ?_)
 have C4 : Blk w4 c 149 (0, 0) [.pointer (some ⟨g, 0, none⟩), .slice none 0 0, .slice none 0 0] := e4.blk
 have k4 : Kp No w3 w4 := e4.kp (.inr (by omega))
 have K4 := ((k1.trans k2).trans k3).trans k4
 have zK4 := K4.size
 have z3 := k3.size
 clear e4
 have B4a := B4.kp (k3.trans k4) fun h => h
 have B6a := B6.kp (k3.trans k4) fun h => h
 have hch : ChAt w4 c g sp bo key name ⟨st, [], []⟩ Ds (fun j => j = c) Dg := by
  refine ⟨h.gr.kpn K4, h.stt.kpn K4, ⟨none, 0, none, 0, C4, Own.nil _ _ _, Own.nil _ _ _, fun j hj => by simp [blkOf] at hj, fun j hj => by simp [blkOf] at hj, fun j hj => by simp [blkOf] at hj⟩, rfl, ?_, ?_, ?_, ?_⟩
  ·rintro j hj rfl; have := h.stt.dlt _ hj; omega
  ·refine fun j hj => ⟨(hgs j hj).1, ?_⟩
   rintro rfl; have := (hgs _ hj).2; omega
  ·rintro j rfl; exact C4.lt
  ·exact fun j hj => Nat.lt_of_lt_of_le (hgs j hj).2 K4.size
 have hst := stp_le hd
 have hs0 : Small ⟨st, [], []⟩ (stp d) := ⟨by simp only; omega, by simp only [List.length_nil]; omega, by simp only [List.length_nil]; omega⟩
 have hn0 : Nums ⟨st, [], []⟩ := ⟨(fun n hn => by cases hn), (fun n hn => by cases hn), h.stt.all⟩
 have hrl := roomN_le hd
 obtain ⟨_, hqw, hqn⟩ := cut_fine (key := key) (name := name) (n := n) d 0 r ⟨st, [], []⟩ 0 hr hn0 hs0
 unfold cutV cutS cutT
 repeat (first | refine AtR_nil ?_ | refine s_mv ?_ | refine s_as ?_ | refine s_pt ?_ | refine s_pf ?_ | refine s_nt ?_ | refine s_ex ?_ | refine s_nc ?_ | refine s_fa ?_ | refine s_ia ?_ | refine s_lns ?_ | refine s_xw ?_ | refine s_aw ?_ | refine s_ow ?_ | refine s_dw ?_ | refine s_hl ?_ | refine s_hr ?_ | refine s_bw ?_ | refine s_wb ?_ | refine s_ng ?_ | refine s_ldw ?_ | refine s_iaa ?_ | refine s_qu ?_ | refine s_rm ?_ | refine s_ml ?_ | refine s_cp ?_ | refine s_ld ?_ | refine s_sl ?_ | refine s_ad ?_ | refine s_sb ?_ | refine s_ln ?_ | refine s_cv ?_ | refine s_lss ?_ | refine s_leq ?_ | refine s_gtr ?_ | refine s_geq ?_ | refine s_eql ?_ | refine s_neq ?_ | refine s_eqlf ?_ | refine s_eqlp ?_ | refine s_eqln ?_ | refine s_neqf ?_ | refine s_neqp ?_ | refine s_neqn ?_ | refine At_seq ?_ | refine At_region ?_ | refine AtR_nil ?_ | refine At_block ?_ | refine At_inBlock ?_ | refine At_skip ?_ | refine At_cond_t rfl ?_ | refine At_cond_f rfl ?_ | refine At_exit rfl ?_ | refine s_no rfl rfl rfl rfl ?_ | refine s_nou rfl rfl rfl ?_ | (refine s_yes rfl rfl rfl rfl ?_; first | refine g_mv ?_ | refine g_as ?_ | refine g_pt ?_ | refine g_pf ?_ | refine g_nt ?_ | refine g_ex ?_ | refine g_nc ?_ | refine g_fa ?_ | refine g_ld ?_ | refine g_ia ?_ | refine g_sl ?_ | refine g_ad ?_ | refine g_sb ?_ | refine g_ln ?_ | refine g_cv ?_ | refine g_lss ?_ | refine g_leq ?_ | refine g_gtr ?_ | refine g_geq ?_ | refine g_eql ?_ | refine g_neq ?_ | refine g_eqlf ?_ | refine g_eqlp ?_ | refine g_eqln ?_ | refine g_neqf ?_ | refine g_neqp ?_ | refine g_neqn ?_))
 refine s_val (x_load_segN rfl (trC_seg B4a) hr33) ?_
 repeat (first | refine AtR_nil ?_ | refine s_mv ?_ | refine s_as ?_ | refine s_pt ?_ | refine s_pf ?_ | refine s_nt ?_ | refine s_ex ?_ | refine s_nc ?_ | refine s_fa ?_ | refine s_ia ?_ | refine s_lns ?_ | refine s_xw ?_ | refine s_aw ?_ | refine s_ow ?_ | refine s_dw ?_ | refine s_hl ?_ | refine s_hr ?_ | refine s_bw ?_ | refine s_wb ?_ | refine s_ng ?_ | refine s_ldw ?_ | refine s_iaa ?_ | refine s_qu ?_ | refine s_rm ?_ | refine s_ml ?_ | refine s_cp ?_ | refine s_ld ?_ | refine s_sl ?_ | refine s_ad ?_ | refine s_sb ?_ | refine s_ln ?_ | refine s_cv ?_ | refine s_lss ?_ | refine s_leq ?_ | refine s_gtr ?_ | refine s_geq ?_ | refine s_eql ?_ | refine s_neq ?_ | refine s_eqlf ?_ | refine s_eqlp ?_ | refine s_eqln ?_ | refine s_neqf ?_ | refine s_neqp ?_ | refine s_neqn ?_ | refine At_seq ?_ | refine At_region ?_ | refine AtR_nil ?_ | refine At_block ?_ | refine At_inBlock ?_ | refine At_skip ?_ | refine At_cond_t rfl ?_ | refine At_cond_f rfl ?_ | refine At_exit rfl ?_ | refine s_no rfl rfl rfl rfl ?_ | refine s_nou rfl rfl rfl ?_ | (refine s_yes rfl rfl rfl rfl ?_; first | refine g_mv ?_ | refine g_as ?_ | refine g_pt ?_ | refine g_pf ?_ | refine g_nt ?_ | refine g_ex ?_ | refine g_nc ?_ | refine g_fa ?_ | refine g_ld ?_ | refine g_ia ?_ | refine g_sl ?_ | refine g_ad ?_ | refine g_sb ?_ | refine g_ln ?_ | refine g_cv ?_ | refine g_lss ?_ | refine g_leq ?_ | refine g_gtr ?_ | refine g_geq ?_ | refine g_eql ?_ | refine g_neq ?_ | refine g_eqlf ?_ | refine g_eqlp ?_ | refine g_eqln ?_ | refine g_neqf ?_ | refine g_neqp ?_ | refine g_neqn ?_))
 refine s_val (x_load1 rfl B4a hdeep) ?_
 refine s_val (x_build rfl (built153 (d : Int) 0)) ?_
 repeat (first | refine AtR_nil ?_ | refine s_mv ?_ | refine s_as ?_ | refine s_pt ?_ | refine s_pf ?_ | refine s_nt ?_ | refine s_ex ?_ | refine s_nc ?_ | refine s_fa ?_ | refine s_ia ?_ | refine s_lns ?_ | refine s_xw ?_ | refine s_aw ?_ | refine s_ow ?_ | refine s_dw ?_ | refine s_hl ?_ | refine s_hr ?_ | refine s_bw ?_ | refine s_wb ?_ | refine s_ng ?_ | refine s_ldw ?_ | refine s_iaa ?_ | refine s_qu ?_ | refine s_rm ?_ | refine s_ml ?_ | refine s_cp ?_ | refine s_ld ?_ | refine s_sl ?_ | refine s_ad ?_ | refine s_sb ?_ | refine s_ln ?_ | refine s_cv ?_ | refine s_lss ?_ | refine s_leq ?_ | refine s_gtr ?_ | refine s_geq ?_ | refine s_eql ?_ | refine s_neq ?_ | refine s_eqlf ?_ | refine s_eqlp ?_ | refine s_eqln ?_ | refine s_neqf ?_ | refine s_neqp ?_ | refine s_neqn ?_ | refine At_seq ?_ | refine At_region ?_ | refine AtR_nil ?_ | refine At_block ?_ | refine At_inBlock ?_ | refine At_skip ?_ | refine At_cond_t rfl ?_ | refine At_cond_f rfl ?_ | refine At_exit rfl ?_ | refine s_no rfl rfl rfl rfl ?_ | refine s_nou rfl rfl rfl ?_ | (refine s_yes rfl rfl rfl rfl ?_; first | refine g_mv ?_ | refine g_as ?_ | refine g_pt ?_ | refine g_pf ?_ | refine g_nt ?_ | refine g_ex ?_ | refine g_nc ?_ | refine g_fa ?_ | refine g_ld ?_ | refine g_ia ?_ | refine g_sl ?_ | refine g_ad ?_ | refine g_sb ?_ | refine g_ln ?_ | refine g_cv ?_ | refine g_lss ?_ | refine g_leq ?_ | refine g_gtr ?_ | refine g_geq ?_ | refine g_eql ?_ | refine g_neq ?_ | refine g_eqlf ?_ | refine g_eqlp ?_ | refine g_eqln ?_ | refine g_neqf ?_ | refine g_neqp ?_ | refine g_neqn ?_))
 refine s_call x_call (cut_calls key name c g sp bo d hd 0 r n ⟨st, [], []⟩ _ Ds (fun j => j = c) Dg hch hr hn0 (by omega) hn hs0) ?_
 generalize cutP key name d 0 r n ⟨st, [], []⟩ = res at *
 obtain ⟨⟨q, cq⟩, ch2⟩ := res
 simp only at hqw hqn ⊢
 rintro _ w5 ⟨rfl, Ds5, Dc5, h5, hDD5, k5⟩
 refine ⟨_, rfl, ?_⟩
 have hq33 := prC_length hqw
 have hDs : ∀ j, w.heap.size ≤ j → ¬ Ds j := fun j hj hd => by have := h.stt.dlt j hd; omega
 have n4 : ¬ Ds b4 ∧ ¬ (b4 = c) := ⟨hDs _ (by omega), by omega⟩
 have n6 : ¬ Ds b6 ∧ ¬ (b6 = c) := ⟨hDs _ (by omega), by omega⟩
 have B4b := B4a.kp k5 (out_kp (Ds := Ds) (Dc := fun j => j = c) n4)
 have B6b := B6a.kp k5 (out_kp (Ds := Ds) (Dc := fun j => j = c) n6)
 have m6 := out_of hDD5 n6 B6a.lt
 have z5 := k5.size
 repeat (first | refine AtR_nil ?_ | refine s_mv ?_ | refine s_as ?_ | refine s_pt ?_ | refine s_pf ?_ | refine s_nt ?_ | refine s_ex ?_ | refine s_nc ?_ | refine s_fa ?_ | refine s_ia ?_ | refine s_lns ?_ | refine s_xw ?_ | refine s_aw ?_ | refine s_ow ?_ | refine s_dw ?_ | refine s_hl ?_ | refine s_hr ?_ | refine s_bw ?_ | refine s_wb ?_ | refine s_ng ?_ | refine s_ldw ?_ | refine s_iaa ?_ | refine s_qu ?_ | refine s_rm ?_ | refine s_ml ?_ | refine s_cp ?_ | refine s_ld ?_ | refine s_sl ?_ | refine s_ad ?_ | refine s_sb ?_ | refine s_ln ?_ | refine s_cv ?_ | refine s_lss ?_ | refine s_leq ?_ | refine s_gtr ?_ | refine s_geq ?_ | refine s_eql ?_ | refine s_neq ?_ | refine s_eqlf ?_ | refine s_eqlp ?_ | refine s_eqln ?_ | refine s_neqf ?_ | refine s_neqp ?_ | refine s_neqn ?_ | refine At_seq ?_ | refine At_region ?_ | refine AtR_nil ?_ | refine At_block ?_ | refine At_inBlock ?_ | refine At_skip ?_ | refine At_cond_t rfl ?_ | refine At_cond_f rfl ?_ | refine At_exit rfl ?_ | refine s_no rfl rfl rfl rfl ?_ | refine s_nou rfl rfl rfl ?_ | (refine s_yes rfl rfl rfl rfl ?_; first | refine g_mv ?_ | refine g_as ?_ | refine g_pt ?_ | refine g_pf ?_ | refine g_nt ?_ | refine g_ex ?_ | refine g_nc ?_ | refine g_fa ?_ | refine g_ld ?_ | refine g_ia ?_ | refine g_sl ?_ | refine g_ad ?_ | refine g_sb ?_ | refine g_ln ?_ | refine g_cv ?_ | refine g_lss ?_ | refine g_leq ?_ | refine g_gtr ?_ | refine g_geq ?_ | refine g_eql ?_ | refine g_neq ?_ | refine g_eqlf ?_ | refine g_eqlp ?_ | refine g_eqln ?_ | refine g_neqf ?_ | refine g_neqp ?_ | refine g_neqn ?_))
 refine AtR_go rfl (AtG_alloc fun b9 w6 hb9 e6 => ?_)
 have B9z : Blk w6 b9 38 (0, 0) z38 := e6.blk
 have k6 : Kp No w5 w6 := e6.kp (.inr (by omega))
 refine AtR_go rfl (G_skip (r_store_all (s := 33) (vs := prC q) rfl rfl B9z hq33 rfl (prC_one _)) fun w7 e7 => ?_)
 have B9 : Blk w7 b9 38 (0, 0) (prC q) := e7.blk
 have k7 : Kp No w5 w7 := k6.trans' (e7.kp (S := fun j => j = b9) (.inl rfl)) (by rintro j rfl; right; omega)
 clear e6 e7 B9z
 have z7 := k7.size
 have B4c := B4b.kp k7 fun h => h
 have B6c := B6b.kp k7 fun h => h
 have h7 := h5.kpn k7
 have hDw : ∀ j, Ds5 j ∨ Dc5 j → Ds j ∨ j = c ∨ w.heap.size ≤ j := fun j hj => (hDD5 j hj).imp id fun h => h.imp id fun h => by omega
 have K7 : Kp (fun j => Ds j ∨ j = c) w w7 := ((K4.mono fun _ h => h.elim).trans k5).trans (k7.mono fun _ h => h.elim)
 repeat (first | refine AtR_nil ?_ | refine s_mv ?_ | refine s_as ?_ | refine s_pt ?_ | refine s_pf ?_ | refine s_nt ?_ | refine s_ex ?_ | refine s_nc ?_ | refine s_fa ?_ | refine s_ia ?_ | refine s_lns ?_ | refine s_xw ?_ | refine s_aw ?_ | refine s_ow ?_ | refine s_dw ?_ | refine s_hl ?_ | refine s_hr ?_ | refine s_bw ?_ | refine s_wb ?_ | refine s_ng ?_ | refine s_ldw ?_ | refine s_iaa ?_ | refine s_qu ?_ | refine s_rm ?_ | refine s_ml ?_ | refine s_cp ?_ | refine s_ld ?_ | refine s_sl ?_ | refine s_ad ?_ | refine s_sb ?_ | refine s_ln ?_ | refine s_cv ?_ | refine s_lss ?_ | refine s_leq ?_ | refine s_gtr ?_ | refine s_geq ?_ | refine s_eql ?_ | refine s_neq ?_ | refine s_eqlf ?_ | refine s_eqlp ?_ | refine s_eqln ?_ | refine s_neqf ?_ | refine s_neqp ?_ | refine s_neqn ?_ | refine At_seq ?_ | refine At_region ?_ | refine AtR_nil ?_ | refine At_block ?_ | refine At_inBlock ?_ | refine At_skip ?_ | refine At_cond_t rfl ?_ | refine At_cond_f rfl ?_ | refine At_exit rfl ?_ | refine s_no rfl rfl rfl rfl ?_ | refine s_nou rfl rfl rfl ?_ | (refine s_yes rfl rfl rfl rfl ?_; first | refine g_mv ?_ | refine g_as ?_ | refine g_pt ?_ | refine g_pf ?_ | refine g_nt ?_ | refine g_ex ?_ | refine g_nc ?_ | refine g_fa ?_ | refine g_ld ?_ | refine g_ia ?_ | refine g_sl ?_ | refine g_ad ?_ | refine g_sb ?_ | refine g_ln ?_ | refine g_cv ?_ | refine g_lss ?_ | refine g_leq ?_ | refine g_gtr ?_ | refine g_geq ?_ | refine g_eql ?_ | refine g_neq ?_ | refine g_eqlf ?_ | refine g_eqlp ?_ | refine g_eqln ?_ | refine g_neqf ?_ | refine g_neqp ?_ | refine g_neqn ?_))
 refine s_val (x_load_all rfl B9 hq33) ?_
 repeat (first | refine AtR_nil ?_ | refine s_mv ?_ | refine s_as ?_ | refine s_pt ?_ | refine s_pf ?_ | refine s_nt ?_ | refine s_ex ?_ | refine s_nc ?_ | refine s_fa ?_ | refine s_ia ?_ | refine s_lns ?_ | refine s_xw ?_ | refine s_aw ?_ | refine s_ow ?_ | refine s_dw ?_ | refine s_hl ?_ | refine s_hr ?_ | refine s_bw ?_ | refine s_wb ?_ | refine s_ng ?_ | refine s_ldw ?_ | refine s_iaa ?_ | refine s_qu ?_ | refine s_rm ?_ | refine s_ml ?_ | refine s_cp ?_ | refine s_ld ?_ | refine s_sl ?_ | refine s_ad ?_ | refine s_sb ?_ | refine s_ln ?_ | refine s_cv ?_ | refine s_lss ?_ | refine s_leq ?_ | refine s_gtr ?_ | refine s_geq ?_ | refine s_eql ?_ | refine s_neq ?_ | refine s_eqlf ?_ | refine s_eqlp ?_ | refine s_eqln ?_ | refine s_neqf ?_ | refine s_neqp ?_ | refine s_neqn ?_ | refine At_seq ?_ | refine At_region ?_ | refine AtR_nil ?_ | refine At_block ?_ | refine At_inBlock ?_ | refine At_skip ?_ | refine At_cond_t rfl ?_ | refine At_cond_f rfl ?_ | refine At_exit rfl ?_ | refine s_no rfl rfl rfl rfl ?_ | refine s_nou rfl rfl rfl ?_ | (refine s_yes rfl rfl rfl rfl ?_; first | refine g_mv ?_ | refine g_as ?_ | refine g_pt ?_ | refine g_pf ?_ | refine g_nt ?_ | refine g_ex ?_ | refine g_nc ?_ | refine g_fa ?_ | refine g_ld ?_ | refine g_ia ?_ | refine g_sl ?_ | refine g_ad ?_ | refine g_sb ?_ | refine g_ln ?_ | refine g_cv ?_ | refine g_lss ?_ | refine g_leq ?_ | refine g_gtr ?_ | refine g_geq ?_ | refine g_eql ?_ | refine g_neq ?_ | refine g_eqlf ?_ | refine g_eqlp ?_ | refine g_eqln ?_ | refine g_neqf ?_ | refine g_neqp ?_ | refine g_neqn ?_))
 refine s_val (x_load1 rfl B4c hdeep) ?_
 refine s_val (x_build (by first | rfl | exact rfl) (built40_rd hqw (d : Int))) ?_
 repeat (first | refine AtR_nil ?_ | refine s_mv ?_ | refine s_as ?_ | refine s_pt ?_ | refine s_pf ?_ | refine s_nt ?_ | refine s_ex ?_ | refine s_nc ?_ | refine s_fa ?_ | refine s_ia ?_ | refine s_lns ?_ | refine s_xw ?_ | refine s_aw ?_ | refine s_ow ?_ | refine s_dw ?_ | refine s_hl ?_ | refine s_hr ?_ | refine s_bw ?_ | refine s_wb ?_ | refine s_ng ?_ | refine s_ldw ?_ | refine s_iaa ?_ | refine s_qu ?_ | refine s_rm ?_ | refine s_ml ?_ | refine s_cp ?_ | refine s_ld ?_ | refine s_sl ?_ | refine s_ad ?_ | refine s_sb ?_ | refine s_ln ?_ | refine s_cv ?_ | refine s_lss ?_ | refine s_leq ?_ | refine s_gtr ?_ | refine s_geq ?_ | refine s_eql ?_ | refine s_neq ?_ | refine s_eqlf ?_ | refine s_eqlp ?_ | refine s_eqln ?_ | refine s_neqf ?_ | refine s_neqp ?_ | refine s_neqn ?_ | refine At_seq ?_ | refine At_region ?_ | refine AtR_nil ?_ | refine At_block ?_ | refine At_inBlock ?_ | refine At_skip ?_ | refine At_cond_t rfl ?_ | refine At_cond_f rfl ?_ | refine At_exit rfl ?_ | refine s_no rfl rfl rfl rfl ?_ | refine s_nou rfl rfl rfl ?_ | (refine s_yes rfl rfl rfl rfl ?_; first | refine g_mv ?_ | refine g_as ?_ | refine g_pt ?_ | refine g_pf ?_ | refine g_nt ?_ | refine g_ex ?_ | refine g_nc ?_ | refine g_fa ?_ | refine g_ld ?_ | refine g_ia ?_ | refine g_sl ?_ | refine g_ad ?_ | refine g_sb ?_ | refine g_ln ?_ | refine g_cv ?_ | refine g_lss ?_ | refine g_leq ?_ | refine g_gtr ?_ | refine g_geq ?_ | refine g_eql ?_ | refine g_neq ?_ | refine g_eqlf ?_ | refine g_eqlp ?_ | refine g_eqln ?_ | refine g_neqf ?_ | refine g_neqp ?_ | refine g_neqn ?_))
 refine s_call x_call (end_calls c g sp bo key name ch2 q (d : Int) cq _ h7 hqw ⟨hqn.gone, hqn.saved⟩) ?_
 rintro _ w8 ⟨rfl, hst8, k8⟩
 refine ⟨_, rfl, ?_⟩
 have B6d := B6c.kp k8 (out_kp m6)
 have hq34 := trC_length hqw (d : Int)
 have hl8 : (if cq = 0 then trC q (d : Int) else trC Pr.zero 0).length = 34 := by split; exact hq34; rfl
 have ho8 : (if cq = 0 then trC q (d : Int) else trC Pr.zero 0).all (·.oneCell') = true := by
  split
  ·exact trC_one _ _
  ·rfl
 repeat (first | refine AtR_nil ?_ | refine s_mv ?_ | refine s_as ?_ | refine s_pt ?_ | refine s_pf ?_ | refine s_nt ?_ | refine s_ex ?_ | refine s_nc ?_ | refine s_fa ?_ | refine s_ia ?_ | refine s_lns ?_ | refine s_xw ?_ | refine s_aw ?_ | refine s_ow ?_ | refine s_dw ?_ | refine s_hl ?_ | refine s_hr ?_ | refine s_bw ?_ | refine s_wb ?_ | refine s_ng ?_ | refine s_ldw ?_ | refine s_iaa ?_ | refine s_qu ?_ | refine s_rm ?_ | refine s_ml ?_ | refine s_cp ?_ | refine s_ld ?_ | refine s_sl ?_ | refine s_ad ?_ | refine s_sb ?_ | refine s_ln ?_ | refine s_cv ?_ | refine s_lss ?_ | refine s_leq ?_ | refine s_gtr ?_ | refine s_geq ?_ | refine s_eql ?_ | refine s_neq ?_ | refine s_eqlf ?_ | refine s_eqlp ?_ | refine s_eqln ?_ | refine s_neqf ?_ | refine s_neqp ?_ | refine s_neqn ?_ | refine At_seq ?_ | refine At_region ?_ | refine AtR_nil ?_ | refine At_block ?_ | refine At_inBlock ?_ | refine At_skip ?_ | refine At_cond_t rfl ?_ | refine At_cond_f rfl ?_ | refine At_exit rfl ?_ | refine s_no rfl rfl rfl rfl ?_ | refine s_nou rfl rfl rfl ?_ | (refine s_yes rfl rfl rfl rfl ?_; first | refine g_mv ?_ | refine g_as ?_ | refine g_pt ?_ | refine g_pf ?_ | refine g_nt ?_ | refine g_ex ?_ | refine g_nc ?_ | refine g_fa ?_ | refine g_ld ?_ | refine g_ia ?_ | refine g_sl ?_ | refine g_ad ?_ | refine g_sb ?_ | refine g_ln ?_ | refine g_cv ?_ | refine g_lss ?_ | refine g_leq ?_ | refine g_gtr ?_ | refine g_geq ?_ | refine g_eql ?_ | refine g_neq ?_ | refine g_eqlf ?_ | refine g_eqlp ?_ | refine g_eqln ?_ | refine g_neqf ?_ | refine g_neqp ?_ | refine g_neqn ?_))
 refine AtR_go rfl (G_skip (r_store_all (s := 34) (by first | rfl | exact rfl) (by first | rfl | exact rfl) B6d hl8 rfl ho8) fun w9 e9 => ?_)
 repeat (first | refine AtR_nil ?_ | refine s_mv ?_ | refine s_as ?_ | refine s_pt ?_ | refine s_pf ?_ | refine s_nt ?_ | refine s_ex ?_ | refine s_nc ?_ | refine s_fa ?_ | refine s_ia ?_ | refine s_lns ?_ | refine s_xw ?_ | refine s_aw ?_ | refine s_ow ?_ | refine s_dw ?_ | refine s_hl ?_ | refine s_hr ?_ | refine s_bw ?_ | refine s_wb ?_ | refine s_ng ?_ | refine s_ldw ?_ | refine s_iaa ?_ | refine s_qu ?_ | refine s_rm ?_ | refine s_ml ?_ | refine s_cp ?_ | refine s_ld ?_ | refine s_sl ?_ | refine s_ad ?_ | refine s_sb ?_ | refine s_ln ?_ | refine s_cv ?_ | refine s_lss ?_ | refine s_leq ?_ | refine s_gtr ?_ | refine s_geq ?_ | refine s_eql ?_ | refine s_neq ?_ | refine s_eqlf ?_ | refine s_eqlp ?_ | refine s_eqln ?_ | refine s_neqf ?_ | refine s_neqp ?_ | refine s_neqn ?_ | refine At_seq ?_ | refine At_region ?_ | refine AtR_nil ?_ | refine At_block ?_ | refine At_inBlock ?_ | refine At_skip ?_ | refine At_cond_t rfl ?_ | refine At_cond_f rfl ?_ | refine At_exit rfl ?_ | refine s_no rfl rfl rfl rfl ?_ | refine s_nou rfl rfl rfl ?_ | (refine s_yes rfl rfl rfl rfl ?_; first | refine g_mv ?_ | refine g_as ?_ | refine g_pt ?_ | refine g_pf ?_ | refine g_nt ?_ | refine g_ex ?_ | refine g_nc ?_ | refine g_fa ?_ | refine g_ld ?_ | refine g_ia ?_ | refine g_sl ?_ | refine g_ad ?_ | refine g_sb ?_ | refine g_ln ?_ | refine g_cv ?_ | refine g_lss ?_ | refine g_leq ?_ | refine g_gtr ?_ | refine g_geq ?_ | refine g_eql ?_ | refine g_neq ?_ | refine g_eqlf ?_ | refine g_eqlp ?_ | refine g_eqln ?_ | refine g_neqf ?_ | refine g_neqp ?_ | refine g_neqn ?_))
 have k9 : Kp (fun j => j = b6) w8 w9 := e9.kp (.inl rfl)
 have hKall : Kp (fun j => Ds j ∨ j = c) w w8 := K7.trans' k8 fun j hj => (hDw j hj).elim (fun h => .inl (.inl h)) fun h => h.elim (fun h => .inl (.inr h)) .inr
 have hK9 : Kp (fun j => Ds j ∨ w.heap.size ≤ j) w w9 := (hKall.mono fun j hj => hj.imp id fun h => by omega).trans' k9 (by rintro j rfl; right; omega)
 have hKD : Kp Ds w w9 := Kp.trans' (Kp.refl Ds w) hK9 fun j hj => hj
 have hD9 : ∀ j, Ds5 j → Ds j ∨ w.heap.size ≤ j := fun j hj => by
  rcases hDw j (.inl hj) with h1 | h1 | h1
  ·exact .inl h1
  ·right; omega
  ·exact .inr h1
 refine At_ret_cell2 (s := 34) Tryd.func56 rfl rfl e9.blk hl8 rfl ⟨rfl, Ds5, ⟨h.gr.kp hKD fun j hj => (h.sep j hj).1, hst8.kp k9 (by rintro j hj rfl; exact m6.1 hj), fun j hj => ⟨fun hd => ?_, Nat.lt_of_lt_of_le (h.sep j hj).2 hKD.size⟩⟩, hD9, hKD⟩
 rcases hD9 j hd with h4 | h4
 ·exact (h.sep j hj).1 h4
 ·have := (h.sep j hj).2; omega
end Go.Proofs.YtfngacepjcdlnaaDoor
namespace Go.Mt
open Go Go.Kx Go.Proofs.YtfngacepjcdlnaaDoor
structure LS where
 r : Pr
 d : Nat
 st : St
 l : BlL
 al : Option Addr
 cl : Nat
structure LawAt (key name : List UInt8) (W w : World) (g sp bo b7 : Nat) (Dg : Nat → Prop) (R n : Nat) (s : LS) : Prop where
 told : Ttold key name s.st s.r s.d s.l R n
 bt : Blk w b7 40 (0, 0) (trC s.r (s.d : Int))
 wood : ∃ Ds, Wood w g sp bo key name s.st Ds Dg ∧ ∀ j, Ds j → W.heap.size ≤ j ∧ j ≠ b7 ∧ ¬ blkOf s.al j
 own : Own w 174 2 s.al s.l.length s.cl (blC s.l)
 ofr : ∀ j, blkOf s.al j → W.heap.size ≤ j ∧ j ≠ b7
 K : Kp No W w
 room : R ≤ 60
 n7 : W.heap.size ≤ b7
 ng : ¬ Dg b7
theorem LawAt.kpn {key name : List UInt8} {W w w' : World} {g sp bo b7 : Nat} {Dg : Nat → Prop} {R n : Nat} {s : LS} (h : LawAt key name W w g sp bo b7 Dg R n s) (k : Kp No w w') : LawAt key name W w' g sp bo b7 Dg R n s := by
 obtain ⟨Ds, h1, h2⟩ := h.wood
 exact ⟨h.told, h.bt.kp k fun h => h, ⟨Ds, h1.kpn k, h2⟩, h.own.kp k fun _ _ h => h, h.ofr, h.K.trans k, h.room, h.n7, h.ng⟩
theorem LawAt.up {key name : List UInt8} {W w : World} {g sp bo b7 : Nat} {Dg : Nat → Prop} {R n m : Nat} {s : LS} (h : LawAt key name W w g sp bo b7 Dg R n s) (hm : n ≤ m) : LawAt key name W w g sp bo b7 Dg R m s :=
 ⟨h.told.mono hm, h.bt, h.wood, h.own, h.ofr, h.K, h.room, h.n7, h.ng⟩
theorem atZ_range {i : Int} (h : -9223372036854775808 ≤ i ∧ i ≤ 9223372036854775807) : -9223372036854775808 ≤ atZ i ∧ atZ i ≤ 9223372036854775807 := by
 unfold atZ
 split <;> omega
end Go.Mt
namespace Go.Proofs.YtfngacepjcdlnaaDoor
open Go Go.Kx Go.Kr Go.Mt
theorem law_put {g sp bo : Nat} {key name : List UInt8} {st : St} {Ds Dg : Nat → Prop} {w : World} {r : Pr} {d : Nat} {l : BlL} {R n : Nat} (hW : Wood w g sp bo key name st Ds Dg) (hT : Ttold key name st r d l R n) (hR : R ≤ 60) (hn : n * R ≤ 300000) (k : Int) (hk : -9223372036854775808 ≤ k ∧ k ≤ 9223372036854775807) (u : UInt8) :
  ∃ (V : List Value) (cd : Nat) (st2 : St), V.length = 34 ∧ V.all (·.oneCell') = true ∧
   (∀ (wx : World) (bb : Nat), Kp No w wx → Own wx 5 1 (some ⟨bb, 0, none⟩) 512 512 (ints .u8 (bs8 (blockB u))) → w.heap.size ≤ bb →
    Calls Tryd.prog 25 #[.pointer (some ⟨g, 0, none⟩), .agg (trC r (d : Int)).toArray, .int .i64 k, .slice (some ⟨bb, 0, none⟩) 512 512] wx fun e w' =>
     e = .returned (.tuple #[.agg V.toArray, .int .i64 (cd : Int)]) ∧ ∃ Ds', Wood w' g sp bo key name st2 Ds' Dg ∧ (∀ j, Ds' j → Ds j ∨ wx.heap.size ≤ j) ∧ Kp Ds wx w') ∧
   (((k < 0 ∨ 537824 ≤ k) ∧ cd = 2 ∧ st2 = st) ∨ ∃ kn : Nat, k = kn ∧ kn < 537824 ∧ ((cd = 0 ∧ ∃ r2 d2, r2.wf ∧ V = trC r2 ((d2 : Nat) : Int) ∧ Ttold key name st2 r2 d2 (putF l kn (blockB u)) R (n + 1)) ∨ (cd = 12 ∧ Ttold key name st2 r d l R (n + 1)))) := by
 obtain ⟨hll, hd5, _⟩ := hT.few
 have hr := hT.wf hW.stt.few.1
 have hlen := hT.len
 by_cases hb : k < 0 ∨ 537824 ≤ k
 ·refine ⟨trC Pr.zero 0, 2, st, rfl, rfl, fun wx bb kx ho hbb => (Put_wrong _ r (d : Int) k (some ⟨bb, 0, none⟩) 512 512 wx hr hk (by omega) (.inr (hb.imp id .inl))).mono ?_, .inl ⟨hb, rfl, rfl⟩⟩
  rintro e w' ⟨rfl, k2⟩
  exact ⟨rfl, Ds, (hW.kpn kx).kpn k2, fun j hj => .inl hj, k2.mono fun _ h => h.elim⟩
 ·obtain ⟨kn, rfl⟩ : ∃ kn : Nat, k = kn := ⟨k.toNat, by omega⟩
  have hk5 : kn < roomN 5 := by
    have : roomN 5 = 537824 := rfl
    omega
  have hput := hT.put (blockB u) hk5 hn
  have hmul : (n + 1) * R = n * R + R := by rw [Nat.add_mul, Nat.one_mul]
  have hcase : ((putT key name st r d kn (blockB u)).1.2.2 = 0 ∧ (putT key name st r d kn (blockB u)).1.1.wf ∧ putV key name st r d kn (blockB u) = trC (putT key name st r d kn (blockB u)).1.1 ((putT key name st r d kn (blockB u)).1.2.1 : Int)) ∨ ((putT key name st r d kn (blockB u)).1.2.2 = 12 ∧ putV key name st r d kn (blockB u) = trC Pr.zero 0) := by
   rcases hput with ⟨h1, h2⟩ | ⟨h1, h2⟩
   ·have h3 := h2.len
    exact .inl ⟨h1, h2.wf (by omega), by unfold putV; rw [if_pos h1]⟩
   ·exact .inr ⟨h1, by unfold putV; rw [if_neg (by omega)]⟩
  refine ⟨putV key name st r d kn (blockB u), (putT key name st r d kn (blockB u)).1.2.2, putS key name st r d kn (blockB u), ?_, ?_, fun wx bb kx ho hbb => ?_, .inr ⟨kn, rfl, by omega, ?_⟩⟩
  ·rcases hcase with ⟨_, h2, h3⟩ | ⟨_, h3⟩
   ·rw [h3]; exact trC_length h2 _
   ·rw [h3]; rfl
  ·rcases hcase with ⟨_, h2, h3⟩ | ⟨_, h3⟩
   ·rw [h3]; exact trC_one _ _
   ·rw [h3]; rfl
  ·have lbb := ho.lt bb rfl
   have hsb : SlE wx .u8 (some ⟨bb, 0, none⟩) 512 512 (bs8 (blockB u)) (fun j => j = bb) := ho.sl.e fun j hj => by simpa [blkOf] using hj.symm
   exact Put_wood g sp bo key name st r d kn (blockB u) (some ⟨bb, 0, none⟩) 512 wx (hW.kpn kx) hr hd5 hk5 (blockB_length u) hsb (by
    rintro j rfl
    exact ⟨fun hd => by have := hW.stt.dlt _ hd; omega, lbb⟩) (by omega)
  ·rcases hput with ⟨h1, h2⟩ | ⟨h1, h2⟩
   ·rcases hcase with ⟨_, h4, h5⟩ | ⟨h4, _⟩
    ·exact .inl ⟨h1, _, _, h4, h5, h2⟩
    ·omega
   ·exact .inr ⟨h1, h2⟩
theorem law_cut {g sp bo : Nat} {key name : List UInt8} {st : St} {Ds Dg : Nat → Prop} {w : World} {r : Pr} {d : Nat} {l : BlL} {R n : Nat} (hW : Wood w g sp bo key name st Ds Dg) (hT : Ttold key name st r d l R n) (hR : R ≤ 60) (hn : n * R ≤ 300000) (k : Int) (hk : -9223372036854775808 ≤ k ∧ k ≤ 9223372036854775807) :
  ∃ (V : List Value) (cd : Nat) (st2 : St), V.length = 34 ∧ V.all (·.oneCell') = true ∧
   (Calls Tryd.prog 56 #[.pointer (some ⟨g, 0, none⟩), .agg (trC r (d : Int)).toArray, .int .i64 k] w fun e w' =>
     e = .returned (.tuple #[.agg V.toArray, .int .i64 (cd : Int)]) ∧ ∃ Ds', Wood w' g sp bo key name st2 Ds' Dg ∧ (∀ j, Ds' j → Ds j ∨ w.heap.size ≤ j) ∧ Kp Ds w w') ∧
   ((k < 0 ∧ cd = 2 ∧ st2 = st) ∨ ∃ kn : Nat, k = kn ∧ ((cd = 0 ∧ ∃ r2, r2.wf ∧ V = trC r2 ((d : Nat) : Int) ∧ Ttold key name st2 r2 d (l.filter (cutLF (kn : Int))) R (n + 1)) ∨ (cd = 12 ∧ Ttold key name st2 r d l R (n + 1)))) := by
 obtain ⟨hll, hd5, _⟩ := hT.few
 have hr := hT.wf hW.stt.few.1
 have hlen := hT.len
 by_cases hb : k < 0
 ·refine ⟨trC Pr.zero 0, 2, st, rfl, rfl, (Cut_wrong _ r (d : Int) k w hr (.inr hb)).mono ?_, .inl ⟨hb, rfl, rfl⟩⟩
  rintro e w' ⟨rfl, k2⟩
  exact ⟨rfl, Ds, hW.kpn k2, fun j hj => .inl hj, k2.mono fun _ h => h.elim⟩
 ·obtain ⟨kn, rfl⟩ : ∃ kn : Nat, k = kn := ⟨k.toNat, by omega⟩
  have hcut := hT.cut (k := kn) hn
  have hmul : (n + 1) * R = n * R + R := by rw [Nat.add_mul, Nat.one_mul]
  have hcase : ((cutT key name st r d kn).1.2 = 0 ∧ (cutT key name st r d kn).1.1.wf ∧ cutV key name st r d kn = trC (cutT key name st r d kn).1.1 (d : Int)) ∨ ((cutT key name st r d kn).1.2 = 12 ∧ cutV key name st r d kn = trC Pr.zero 0) := by
   rcases hcut with ⟨h1, h2⟩ | ⟨h1, h2⟩
   ·have h3 := h2.len
    exact .inl ⟨h1, h2.wf (by omega), by unfold cutV; rw [if_pos h1]⟩
   ·exact .inr ⟨h1, by unfold cutV; rw [if_neg (by omega)]⟩
  refine ⟨cutV key name st r d kn, (cutT key name st r d kn).1.2, cutS key name st r d kn, ?_, ?_, Cut_wood g sp bo key name st r d kn w hW hr hd5 (by omega) (by omega), .inr ⟨kn, rfl, ?_⟩⟩
  ·rcases hcase with ⟨_, h2, h3⟩ | ⟨_, h3⟩
   ·rw [h3]; exact trC_length h2 _
   ·rw [h3]; rfl
  ·rcases hcase with ⟨_, h2, h3⟩ | ⟨_, h3⟩
   ·rw [h3]; exact trC_one _ _
   ·rw [h3]; rfl
  ·rcases hcut with ⟨h1, h2⟩ | ⟨h1, h2⟩
   ·rcases hcase with ⟨_, h4, h5⟩ | ⟨h4, _⟩
    ·exact .inl ⟨h1, _, h4, h5, h2⟩
    ·omega
   ·exact .inr ⟨h1, h2⟩
theorem putLn_calls (l : BlL) (i : Nat) (b : List UInt8) (a : Option Addr) (cap : Nat) (w : World) (ho : Own w 174 2 a l.length cap (blC l)) (hl : l.length ≤ 40000) :
  Calls Tryd.prog 55 #[.slice a l.length cap, .int .i64 (i : Int), strV b] w fun e w' => ∃ a' cap', e = .returned (.slice a' (putF l i b).length cap') ∧ Own w' 174 2 a' (putF l i b).length cap' (blC (putF l i b)) ∧ (∀ j, blkOf a' j → w.heap.size ≤ j) ∧ Kp No w w' := by
 have h := putL_calls (toI l) (i : Int) b a cap w (by rw [toI_length, ← blC_toI]; exact ho) (by rw [toI_length]; exact hl)
 rw [toI_length, putF_toI, toI_length, ← blC_toI] at h
 exact h
theorem octet_in2 {c : Int} (h : 0 ≤ c ∧ c ≤ 255) : ∃ u : UInt8, c = ub u := ⟨UInt8.ofNat c.toNat, by
 rw [← wrap_u8n, wrap_u8]
 omega⟩
theorem nil_sl (w : World) : SlE w .u8 none 0 0 (bs8 []) (fun _ => True) := ⟨rfl, Nat.le_refl _, by omega, .inl rfl⟩
end Go.Proofs.YtfngacepjcdlnaaDoor
