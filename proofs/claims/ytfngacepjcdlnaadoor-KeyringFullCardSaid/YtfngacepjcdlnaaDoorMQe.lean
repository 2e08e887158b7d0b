/- The law KeyringFull. | The law KeyringFull, of what comes in. -/
import Derived.Test.YtfngacepjcdlnaaDoorMGe
import Derived.Test.YtfngacepjcdlnaaDoorMKb
set_option linter.unusedVariables false
namespace Go.Proofs.YtfngacepjcdlnaaDoor
open Go Go.Kx Go.Kr
set_option maxRecDepth 100000 in
set_option maxHeartbeats 8000000 in
theorem full_row (W : World) (hC : ∃ fz, Blk W 1 243 fz (ints .u64 (ws kSha))) (h : UInt8) :
    Calls Tryd.prog 6 #[.int .u8 (ub h)] W fun e w' => e = .returned (.bool true) ∧ RowKit.Below W.heap.size W w' := by
  have hub := ub_bd h
  obtain ⟨m, hm⟩ : ∃ m : Nat, m = (ub h % 20).toNat := ⟨_, rfl⟩
  have hm20 : ub h % 20 = (m : Int) := by omega
  have hmlt : m < 20 := by omega
  refine calls_at (n := 69) Tryd.func6 rfl rfl (by simp) ?_
  (refine At_seq ?_; refine At_region ?_; refine s_as ?_; refine AtR_nil ?_; refine At_seq ?_; refine At_seq ?_; refine At_region ?_)
  refine s_call x_call (awake23_calls _ hC) ?_
  rintro _ w1 ⟨rfl, K⟩
  refine ⟨_, rfl, ?_⟩
  (refine s_nt ?_; refine AtR_nil ?_; refine At_cond_f rfl ?_; refine At_skip ?_; refine At_seq ?_; refine At_region ?_)
  refine s_call x_call (real_calls _) ?_
  rintro _ w3 ⟨bo, rfl, BO, hbo, k3⟩
  refine ⟨_, rfl, ?_⟩
  refine s_call x_call (ring_calls bo _) ?_
  rintro _ w4 ⟨r, rfl, BR, hr, k4⟩
  refine ⟨_, rfl, ?_⟩
  have hP := Pack.make hC (K.trans k3) BO BR hr k4
  generalize (fun j => j = r) = D0 at hP
  clear BO BR hr k4 K k3 hbo
  (refine s_mv ?_; refine s_ex ?_; refine s_ex ?_; refine s_as ?_; refine s_as ?_; refine AtR_nil ?_; refine At_seq ?_; refine At_region ?_; refine s_mv ?_; refine s_cv ?_; refine s_rm ?_; refine s_as ?_; refine AtR_nil ?_; refine At_seq ?_; refine At_seq ?_; refine At_region ?_; refine s_as ?_; refine AtR_nil ?_; refine At_block ?_)
  rw [hm20]
  skip
  refine At_while (fun s : Nat × List En × (Nat → Prop) => [(3, .pointer (some ⟨r, 0, none⟩)), (5, .int .i64 (m : Int)), (6, .int .i64 (s.1 : Int))])
    (fun s w' => s.1 ≤ m ∧ Pack W w' r bo s.2.1 s.2.2 ∧ ents s.2.1 = fullL s.1) (fun s => m - s.1) (0, [], D0)
    ⟨rfl, rfl, rfl, trivial⟩ ⟨by omega, hP, rfl⟩ ?_
  clear hP
  rintro ⟨i, xs, D⟩ w5 junk ⟨hi, hP, hL⟩ again
  simp only at hi hP hL again ⊢
  obtain ⟨hg, hlen, hhit⟩ := full_ok i (by omega)
  have hkl : (kf i).length = 16 := by simp [kf]
  by_cases hlt : i < m
  · (refine At_seq ?_; refine At_seq ?_; refine At_region ?_; refine s_mv ?_; refine s_mv ?_; refine s_lss ?_; refine AtR_nil ?_; refine At_cond_t rfl ?_; refine At_skip ?_; refine At_seq ?_; refine At_block ?_; refine At_seq ?_; refine At_region ?_; refine s_mv ?_; refine s_mv ?_; refine s_cv ?_)
    rw [wrap_u8n]
    refine s_call x_call (lawKey_calls (UInt8.ofNat i) 16 _ (by omega)) ?_
    rintro _ w6 ⟨ak, ck, rfl, AK, hak, k6⟩
    refine ⟨_, rfl, ?_⟩
    have hdl := hP.R.dlt
    replace hP := hP.kpn k6
    refine s_call x_call (add_calls xs (kf i) ak 16 ck r bo _ hP.R (by rw [hL]; exact hg) (AK.sl.e fun b hb => hb) (fun h => by obtain ⟨_, _, _, h4⟩ := AK; rcases h4 with ⟨_, h⟩ | ⟨b, sp, e, _⟩; omega; rw [h] at e; cases e) (fun b hb hd => by have := hdl b hd; have := hak b hb; omega)) ?_
    rintro _ w7 ⟨rfl, ht⟩
    refine ⟨_, rfl, ?_⟩
    rw [hL, full_add (by omega)] at ht ⊢
    obtain ⟨xs2, D2, hP2, hL2, hD2, k2⟩ := hP.to ht
    have hL2' : ents xs2 = fullL (i + 1) := by rw [hL2, fullL, full_add (by omega)]
    clear ht hP hL k6 hak AK hdl hD2 hL2 k2
    (refine s_mv ?_; refine s_ex ?_; refine s_ex ?_)
    have hvl : (if (if i < 16 then 0 else 12) = 0 then idK (kf i) else List.replicate 16 0).length = 16 := by
      split
      · exact idK_length _
      · simp
    refine id_cell (fun _ => rfl) (fun _ => rfl) hvl fun b7 w7 hb7 B7 k7 => ?_
    replace hP2 := hP2.kpn k7
    clear k7 hb7 B7
    by_cases h16 : i < 16
    · rw [if_pos h16]
      (refine s_as ?_; refine AtR_nil ?_; refine At_seq ?_; refine At_region ?_; refine s_mv ?_; refine s_eql ?_; refine s_mv ?_; refine s_lss ?_)
      refine s_val (x_neq_bool rfl rfl) ?_
      (refine s_mv ?_; refine s_yes rfl rfl rfl rfl ?_; refine g_mv ?_; refine s_yes rfl rfl rfl rfl ?_; refine g_neq ?_; refine s_yes rfl rfl rfl rfl ?_; refine g_mv ?_; refine s_no rfl rfl rfl rfl ?_; refine s_no rfl rfl rfl rfl ?_; refine s_yes rfl rfl rfl rfl ?_; refine g_pf ?_; refine s_pf ?_; refine AtR_nil ?_; refine At_cond_f rfl ?_; refine At_skip ?_; refine At_inBlock ?_; refine At_region ?_; refine s_mv ?_; refine s_ad ?_; refine s_as ?_; refine AtR_nil ?_)
      exact again (i + 1, xs2, D2) _ _ ⟨rfl, rfl, rfl, trivial⟩ ⟨hlt, hP2, hL2'⟩ (by simp only; omega)
    · rw [if_neg h16]
      (refine s_as ?_; refine AtR_nil ?_; refine At_seq ?_; refine At_region ?_; refine s_mv ?_; refine s_eql ?_; refine s_mv ?_; refine s_lss ?_)
      refine s_val (x_neq_bool rfl rfl) ?_
      (refine s_mv ?_; refine s_yes rfl rfl rfl rfl ?_; refine g_mv ?_; refine s_yes rfl rfl rfl rfl ?_; refine g_neq ?_; refine s_yes rfl rfl rfl rfl ?_; refine g_mv ?_; refine s_yes rfl rfl rfl rfl ?_; refine g_mv ?_; refine s_yes rfl rfl rfl rfl ?_; refine g_neq ?_; refine s_yes rfl rfl rfl rfl ?_; refine g_pt ?_; refine s_pf ?_; refine AtR_nil ?_; refine At_cond_f rfl ?_; refine At_skip ?_; refine At_inBlock ?_; refine At_region ?_; refine s_mv ?_; refine s_ad ?_; refine s_as ?_; refine AtR_nil ?_)
      exact again (i + 1, xs2, D2) _ _ ⟨rfl, rfl, rfl, trivial⟩ ⟨hlt, hP2, hL2'⟩ (by simp only; omega)
  have him : i = m := by omega
  subst him
  clear again hi hlt
  by_cases h0 : i = 0
  · subst h0
    (refine At_seq ?_; refine At_seq ?_; refine At_region ?_; refine s_mv ?_; refine s_mv ?_; refine s_lss ?_; refine AtR_nil ?_; refine At_cond_f rfl ?_; refine At_exit rfl ?_; refine At_seq ?_; refine At_seq ?_; refine At_region ?_; refine s_mv ?_; refine s_eql ?_; refine AtR_nil ?_; refine At_cond_t rfl ?_; refine At_seq ?_; refine At_region ?_; refine s_mv ?_)
    refine s_call x_call (keys_calls xs r bo _ hP.R) ?_
    rintro _ w6 ⟨ak, ck, rfl, AK, hak, k6⟩
    refine ⟨_, rfl, ?_⟩
    have hx0 : xs.length = 0 := by rw [← ents_length, hL]; rfl
    (refine s_ln ?_; refine s_eql ?_; refine s_as ?_; refine AtR_nil ?_)
    refine At_ret1 Tryd.func6 rfl (by conv => lhs; whnf) ?_
    exact ⟨rfl, (hP.K.trans k6).below⟩
  (refine At_seq ?_; refine At_seq ?_; refine At_region ?_; refine s_mv ?_; refine s_mv ?_; refine s_lss ?_; refine AtR_nil ?_; refine At_cond_f rfl ?_; refine At_exit rfl ?_; refine At_seq ?_; refine At_seq ?_; refine At_region ?_; refine s_mv ?_; refine s_eql ?_; refine AtR_nil ?_; refine At_cond_f rfl ?_; refine At_skip ?_; refine At_seq ?_; refine At_region ?_; refine s_mv ?_)
  refine s_call x_call (lawKey_calls 0 16 _ (by omega)) ?_
  rintro _ w6 ⟨ak, ck, rfl, AK, hak, k6⟩
  refine ⟨_, rfl, ?_⟩
  have hdl := hP.R.dlt
  replace hP := hP.kpn k6
  obtain ⟨f1, f2⟩ := full_again (Nat.pos_of_ne_zero h0) hmlt
  refine s_call x_call (add_calls xs (kf 0) ak 16 ck r bo _ hP.R (by rw [hL]; exact hg) (AK.sl.e fun b hb => hb) (fun h => by obtain ⟨_, _, _, h4⟩ := AK; rcases h4 with ⟨_, h⟩ | ⟨b, sp, e, _⟩; omega; rw [h] at e; cases e) (fun b hb hd => by have := hdl b hd; have := hak b hb; omega)) ?_
  rintro _ w7 ⟨rfl, ht⟩
  refine ⟨_, rfl, ?_⟩
  rw [hL, f1] at ht ⊢
  simp only [if_true] at ht ⊢
  obtain ⟨xs2, D2, hP2, hL2, hD2, k2⟩ := hP.to ht
  have hx2 : xs2.length = min i 16 := by rw [← ents_length, hL2, f2]
  clear ht hP hL k6 hak AK hdl hD2 hL2 k2
  (refine s_mv ?_; refine s_ex ?_; refine s_ex ?_)
  refine id_cell (fun _ => rfl) (fun _ => rfl) (idK_length _) fun b7 w7 hb7 B7 k7 => ?_
  replace hP2 := hP2.kpn k7
  clear k7 hb7 B7
  (refine s_as ?_; refine AtR_nil ?_; refine At_seq ?_; refine At_region ?_; refine s_mv ?_; refine s_eql ?_; refine s_mv ?_; refine s_yes rfl rfl rfl rfl ?_; refine g_mv ?_)
  refine s_yes rfl rfl rfl rfl (g_call x_call (keys_calls xs2 r bo _ hP2.R) ?_)
  rintro _ w9 ⟨a9, c9, rfl, A9, ha9, k9⟩
  refine ⟨_, rfl, ?_⟩
  (refine s_yes rfl rfl rfl rfl ?_; refine g_ln ?_; refine s_yes rfl rfl rfl rfl ?_; refine g_mv ?_)
  refine s_yes rfl rfl rfl rfl (g_val (x_min (k := .i64) rfl rfl) ?_)
  rw [show ((xs2.length : Nat) : Int) = min (i : Int) 16 by omega]
  (refine s_yes rfl rfl rfl rfl ?_; refine g_eql ?_; refine s_pt ?_; refine s_as ?_; refine AtR_nil ?_)
  refine At_ret1 Tryd.func6 rfl (by conv => lhs; whnf) ?_
  exact ⟨rfl, (hP2.K.trans k9).below⟩
end Go.Proofs.YtfngacepjcdlnaaDoor

namespace Go.Proofs.YtfngacepjcdlnaaDoor
open Go Go.Kx Go.Kr
theorem octet_wf {x : Int} (h : (Lit.int .u8 x).wf = true) : ∃ u : UInt8, x = ub u := ⟨UInt8.ofNat x.toNat, by
  obtain ⟨h1, h2⟩ := wf_bounds h
  have h3 : IntKind.u8.min = 0 := rfl
  have h4 : IntKind.u8.max = 255 := rfl
  rw [← wrap_u8n, wrap_u8]
  omega⟩
theorem full_in (W : World) (hC : ∃ fz, Blk W 1 243 fz (ints .u64 (ws kSha))) (h : Int) (hh : (Lit.int .u8 h).wf = true) :
    Calls Tryd.prog 6 #[.int .u8 h] W fun e w' => e = .returned (.bool true) ∧ RowKit.Below W.heap.size W w' := by
  obtain ⟨u, rfl⟩ := octet_wf hh
  exact full_row W hC u
end Go.Proofs.YtfngacepjcdlnaaDoor
