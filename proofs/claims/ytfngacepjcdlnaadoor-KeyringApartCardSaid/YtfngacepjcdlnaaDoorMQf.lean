/- The law KeyringApart. | The law KeyringApart, of what comes in. -/
import Derived.Test.YtfngacepjcdlnaaDoorMGf
import Derived.Test.YtfngacepjcdlnaaDoorMQb
import Derived.Test.YtfngacepjcdlnaaDoorMKb
set_option linter.unusedVariables false
namespace Go.Proofs.YtfngacepjcdlnaaDoor
open Go Go.Kx Go.Kr
theorem octs_inj {l m : List UInt8} (h : bs8 l = bs8 m) : l = m := by
  have := congrArg (List.map fun x : Int => UInt8.ofNat x.toNat) h
  simpa [bs8, ub, Function.comp_def] using this
theorem slE_nil {w : World} {D : Nat → Prop} : SlE w .u8 none 0 0 (bs8 []) D := ⟨rfl, Nat.le_refl _, by omega, .inl rfl⟩
set_option maxRecDepth 100000 in
set_option maxHeartbeats 8000000 in
theorem apart_row (W : World) (hC : ∃ fz, Blk W 1 243 fz (ints .u64 (ws kSha))) (kx : List UInt8) (a : Option Addr) (len cap : Nat) (hk : Sl W .u8 a len cap (bs8 kx)) :
    Calls Tryd.prog 7 #[.slice a len cap] W fun e w' => e = .returned (.bool true) ∧ RowKit.Below W.heap.size W w' := by
  have hlk := hk.len_eq
  simp only [bs8_length] at hlk
  subst hlk
  obtain ⟨k9, h9⟩ : ∃ k : List UInt8, k = List.replicate 32 9 := ⟨_, rfl⟩
  obtain ⟨k8, h8⟩ : ∃ k : List UInt8, k = List.replicate 32 8 := ⟨_, rfl⟩
  obtain ⟨k7, h7⟩ : ∃ k : List UInt8, k = List.replicate 32 7 := ⟨_, rfl⟩
  have l9 : k9.length = 32 := by rw [h9]; simp
  have l8 : k8.length = 32 := by rw [h8]; simp
  have l7 : k7.length = 32 := by rw [h7]; simp
  have hfar : idK k7 ≠ idK k9 := by rw [h7, h9]; exact far_ne
  have i9 := idK_length k9
  have i8 := idK_length k8
  have i7 := idK_length k7
  have hkn9 : k9 ≠ [] := fun h => by rw [h] at l9; cases l9
  refine calls_at (n := 133) Tryd.func7 rfl rfl (by simp) ?_
  (refine At_seq ?_; refine At_region ?_; refine s_as ?_; refine AtR_nil ?_; refine At_seq ?_; refine At_seq ?_; refine At_region ?_)
  refine s_call x_call (awake23_calls _ hC) ?_
  rintro _ w1 ⟨rfl, K⟩
  refine ⟨_, rfl, ?_⟩
  have hC1 : ∃ fz, Blk w1 1 243 fz (ints .u64 (ws kSha)) := by obtain ⟨fz, hc⟩ := hC; exact ⟨fz, hc.kp K fun h => h⟩
  by_cases hln : 15 < kx.length
  · (refine s_nt ?_; refine s_mv ?_; refine s_yes rfl rfl rfl rfl ?_; refine g_mv ?_; refine s_yes rfl rfl rfl rfl ?_; refine g_ln ?_; refine s_yes rfl rfl rfl rfl ?_; refine g_gtr ?_; refine s_pf ?_; refine AtR_nil ?_; refine At_cond_t rfl ?_; refine At_seq ?_; refine At_region ?_)
    refine s_call x_call (awake23_calls _ hC1) ?_
    rintro _ w3 ⟨rfl, k3⟩
    refine ⟨_, rfl, ?_⟩
    (refine s_as ?_; refine AtR_nil ?_)
    refine At_ret1 Tryd.func7 rfl (by conv => lhs; whnf) ?_
    exact ⟨rfl, (K.trans k3).below⟩
  (refine s_nt ?_; refine s_mv ?_; refine s_yes rfl rfl rfl rfl ?_; refine g_mv ?_; refine s_yes rfl rfl rfl rfl ?_; refine g_ln ?_; refine s_yes rfl rfl rfl rfl ?_; refine g_gtr ?_; refine s_pf ?_; refine AtR_nil ?_; refine At_cond_f rfl ?_; refine At_skip ?_; refine At_seq ?_; refine At_region ?_)
  refine s_call x_call (real_calls _) ?_
  rintro _ w3 ⟨bo, rfl, BO, hbo, k3⟩
  refine ⟨_, rfl, ?_⟩
  refine s_call x_call (ring_calls bo _) ?_
  rintro _ w4 ⟨r, rfl, BR, hr, k4⟩
  refine ⟨_, rfl, ?_⟩
  have hP := Pack.make hC (K.trans k3) BO BR hr k4
  generalize (fun j => j = r) = D0 at hP
  clear BO BR hr k4 K k3 hbo hC1
  have own_nn : ∀ {w : World} {ak : Option Addr} {ck : Nat} {xs : List Int}, Own w 5 1 ak 32 ck (ints .u8 xs) → ak = none → 32 = 0 := fun AK h => by obtain ⟨_, _, _, h4⟩ := AK; rcases h4 with ⟨_, h⟩ | ⟨b, sp, e, _⟩; omega; rw [h] at e; cases e
  (refine s_mv ?_; refine s_ex ?_; refine s_ex ?_; refine s_as ?_; refine s_as ?_; refine AtR_nil ?_; refine At_seq ?_; refine At_region ?_; refine s_mv ?_)
  refine s_call x_call (lawKey_calls 9 32 _ (by omega)) ?_
  rintro _ w6 ⟨ak, ck, rfl, AK, hak, k6⟩
  rw [← h9] at AK
  refine ⟨_, rfl, ?_⟩
  have hdl := hP.R.dlt
  replace hP := hP.kpn k6
  refine s_call x_call (add_calls [] k9 ak 32 ck r bo _ hP.R Kr.Good.nil (AK.sl.e fun b hb => hb) (own_nn AK) (fun b hb hd => by have := hdl b hd; have := hak b hb; omega)) ?_
  rintro _ w7 ⟨rfl, ht⟩
  refine ⟨_, rfl, ?_⟩
  have hok9 : addOk (idK k9) k9 [] = 0 := by unfold addOk; rw [if_neg (by omega), if_neg (by simp)]
  simp only [show ents [] = [] from rfl, hok9, if_true, add_first] at ht ⊢
  obtain ⟨xs1, D1, hP1, hL1, _, _⟩ := hP.to ht
  clear ht hP k6 hak AK hdl
  (refine s_mv ?_; refine s_ex ?_; refine s_ex ?_)
  refine id_cell (fun _ => rfl) (fun _ => rfl) i9 fun b5 w8 hb5 B5 k8' => ?_
  have n5 : ¬ D1 b5 := hP1.not hb5
  replace hP1 := hP1.kpn k8'
  clear k8' hb5
  (refine s_as ?_; refine AtR_nil ?_; refine At_seq ?_; refine At_region ?_; refine s_mv ?_)
  refine s_call x_call (lawKey_calls 8 32 _ (by omega)) ?_
  rintro _ w9 ⟨ak, ck, rfl, AK, hak, k6⟩
  rw [← h8] at AK
  refine ⟨_, rfl, ?_⟩
  have hdl := hP1.R.dlt
  replace hP1 := hP1.kpn k6
  replace B5 := B5.kp k6 fun h => h
  have hA1 : Apart (idK k9) k9 (ents xs1) 0 := by
    rw [hL1]
    exact ⟨⟨List.pairwise_singleton _ _, fun e he => by rw [List.mem_singleton] at he; subst he; exact i9, fun e he => by rw [List.mem_singleton] at he; subst he; exact fun h => hkn9 h.2, fun e he => by rw [List.mem_singleton] at he; subst he; simp only; omega, by simp⟩, by simp, fun e he => by rw [List.mem_singleton] at he; subst he; exact Nat.le_refl _⟩
  refine s_call x_call (add_calls xs1 k8 ak 32 ck r bo _ hP1.R hA1.good (AK.sl.e fun b hb => hb) (own_nn AK) (fun b hb hd => by have := hdl b hd; have := hak b hb; omega)) ?_
  rintro _ w10 ⟨rfl, ht⟩
  refine ⟨_, rfl, ?_⟩
  have hok8 : addOk (idK k8) k8 (ents xs1) = 0 := by unfold addOk; rw [if_neg (by omega), if_neg (fun h => by rw [hL1] at h; simp at h)]
  have hA2 := hA1.add (x := idK k8) (key := k8) i8
  simp only [hok8, if_true] at ht hA2 ⊢
  obtain ⟨xs2, D2, hP2, hL2, hD2, k2⟩ := hP1.to ht
  have n5' := hD2 _ n5 B5.lt
  replace B5 := B5.kp k2 n5
  clear ht hP1 k6 hak AK hdl hD2 k2 n5 hA1 hok8
  (refine s_mv ?_; refine s_ex ?_; refine s_ex ?_)
  refine id_cell (fun _ => rfl) (fun _ => rfl) i8 fun b7 w11 hb7 B7 k8' => ?_
  have n7 : ¬ D2 b7 := hP2.not hb7
  replace hP2 := hP2.kpn k8'
  replace B5 := B5.kp k8' fun h => h
  clear k8' hb7
  have hid : ∀ k, ints .u8 (bs8 (idK k)) = mkI K22 (bs8 (idK k)) := fun k => (mkI22 _ (by simp [idK_length])).symm
  have lI : ∀ k, (mkI K22 (bs8 (idK k))).length = 16 := fun k => by rw [mkI_length (by simp [idK_length]; rfl)]; rfl
  (refine s_as ?_; refine AtR_nil ?_; refine At_seq ?_; refine At_seq ?_; refine At_region ?_; refine s_mv ?_; refine s_neq ?_; refine s_mv ?_; refine s_yes rfl rfl rfl rfl ?_; refine g_mv ?_; refine s_yes rfl rfl rfl rfl ?_; refine g_neq ?_; refine s_pf ?_; refine s_mv ?_)
  refine s_yes rfl rfl rfl rfl (g_val (x_load_all (cs := mkI K22 (bs8 (idK k9))) rfl (by rw [← hid]; exact B5) (lI _)) ?_)
  refine s_yes rfl rfl rfl rfl (g_val (x_load_all (cs := mkI K22 (bs8 (idK k8))) rfl (by rw [← hid]; exact B7) (lI _)) ?_)
  refine s_yes rfl rfl rfl rfl (g_val (x_eql_flat rfl rfl (by simp [i9]; rfl) (by simp [i8]; rfl)) ?_)
  by_cases hsame : idK k8 = idK k9
  · rw [decide_eq_true (by rw [hsame])]
    (refine s_pf ?_; refine AtR_nil ?_; refine At_cond_t rfl ?_; refine At_seq ?_; refine At_region ?_; refine s_mv ?_; refine s_eql ?_; refine s_mv ?_; refine s_yes rfl rfl rfl rfl ?_; refine g_mv ?_; refine s_yes rfl rfl rfl rfl ?_; refine g_eql ?_; refine s_pt ?_; refine s_as ?_; refine AtR_nil ?_)
    refine At_ret1 Tryd.func7 rfl (by conv => lhs; whnf) ?_
    exact ⟨rfl, hP2.K.below⟩
  rw [decide_eq_false (fun h => hsame (octs_inj h).symm)]
  replace hA2 := hA2 hsame
  rw [← hL2] at hA2
  obtain ⟨e1, e2⟩ := hA2.ent hkn9
  (refine s_pf ?_; refine AtR_nil ?_; refine At_cond_f rfl ?_; refine At_skip ?_; refine At_seq ?_; refine At_region ?_; refine s_mv ?_)
  refine s_val (x_load_all rfl B5 (by simp [i9])) ?_
  refine s_call x_call (ringDerive_calls xs2 (idK k9) r bo 2 [] 64 none 0 0 _ (D' := fun _ => True) hP2.R hA2.good.sorted i9 hA2.good.keys slE_nil (by omega)) ?_
  rintro _ w12 ⟨k12, hp⟩
  rw [e2, if_pos rfl, if_pos (by omega), e1] at hp
  obtain ⟨a9, c9, rfl, A9, hf9⟩ := hp
  refine ⟨_, rfl, ?_⟩
  rw [show (64 : Int).toNat = 64 from rfl] at A9 ⊢
  simp only at A9
  have n9 : ∀ j, blkOf a9 j → ¬ D2 j := fun j hj h => by have := hP2.R.dlt j h; have := hf9 j hj; omega
  replace B5 := B5.kp k12 fun h => h
  replace B7 := B7.kp k12 fun h => h
  replace hP2 := hP2.kpn k12
  clear k12 hf9 e1 e2 hL2
  (refine s_mv ?_; refine s_ex ?_; refine s_ex ?_; refine s_as ?_; refine s_as ?_; refine AtR_nil ?_; refine At_seq ?_; refine At_seq ?_; refine At_region ?_; refine s_as ?_; refine AtR_nil ?_; refine At_block ?_)
  refine At_while (fun s : Nat × List En × (Nat → Prop) => [(0, .slice a kx.length cap), (3, .pointer (some ⟨r, 0, none⟩)), (5, .pointer (some ⟨b5, 0, none⟩)), (7, .pointer (some ⟨b7, 0, none⟩)), (9, .slice a9 64 c9), (11, .int .i64 (s.1 : Int))])
    (fun s w' => s.1 ≤ kx.length ∧ Pack W w' r bo s.2.1 s.2.2 ∧ Apart (idK k9) k9 (ents s.2.1) s.1 ∧ (Blk w' b5 22 (0, 0) (ints .u8 (bs8 (idK k9))) ∧ ¬ s.2.2 b5) ∧ (Blk w' b7 22 (0, 0) (ints .u8 (bs8 (idK k8))) ∧ ¬ s.2.2 b7) ∧ Own w' 5 1 a9 64 c9 (ints .u8 (bs8 (derive k9 2 [] 64))) ∧ ∀ j, blkOf a9 j → ¬ s.2.2 j) (fun s => kx.length - s.1) (0, xs2, D2)
    ⟨rfl, rfl, rfl, rfl, rfl, rfl, trivial⟩ ⟨by omega, hP2, hA2, ⟨B5, n5'⟩, ⟨B7, n7⟩, A9, n9⟩ ?_
  clear hP2 hA2 B5 n5' B7 n7 A9 n9
  rintro ⟨i, xs, D⟩ w13 junk ⟨hi, hP, hA, ⟨B5, n5⟩, ⟨B7, n7⟩, A9, n9⟩ again
  simp only at hi hP hA n5 n7 n9 again ⊢
  have hkS := hk.kpn hP.K
  by_cases hlt : i < kx.length
  · obtain ⟨_, h0⟩ | ⟨ba, off, rfl, hba, hSg⟩ := hkS.mem
    · have := hkS.le; omega
    have hbl : (bs8 kx).length = kx.length := by simp
    have hub := ub_bd (kx.getD i 0)
    obtain ⟨m, hm⟩ : ∃ m : Nat, m = (ub (kx.getD i 0) % 5).toNat := ⟨_, rfl⟩
    have hm5 : ub (kx.getD i 0) % 5 = (m : Int) := by omega
    have hmlt : m < 5 := by omega
    (refine At_seq ?_; refine At_seq ?_; refine At_region ?_; refine s_mv ?_; refine s_mv ?_; refine s_ln ?_; refine s_lss ?_; refine AtR_nil ?_; refine At_cond_t rfl ?_; refine At_skip ?_; refine At_seq ?_; refine At_block ?_; refine At_seq ?_; refine At_seq ?_; refine At_region ?_; refine s_mv ?_; refine s_mv ?_; refine s_ia ?_; refine s_ldw ?_; refine s_rm ?_; refine AtR_nil ?_; refine At_block ?_; refine At_seq ?_; refine At_region ?_)
    rw [hm5]
    clear hm hm5
    by_cases hme : m = 0
    · subst hme
      (refine s_eql ?_; refine s_as ?_; refine AtR_nil ?_; refine At_cond_t rfl ?_; refine At_region ?_; refine s_mv ?_)
      refine s_call x_call (lawKey_calls 8 32 _ (by omega)) ?_
      rintro _ w14 ⟨ak, ck, rfl, AK, hak, k6⟩
      rw [← h8] at AK
      refine ⟨_, rfl, ?_⟩
      have hdl := hP.R.dlt
      replace hP := hP.kpn k6
      replace B5 := B5.kp k6 fun h => h
      replace B7 := B7.kp k6 fun h => h
      replace A9 := A9.kp k6 fun _ _ h => h
      refine s_call x_call (add_calls xs k8 ak 32 ck r bo _ hP.R hA.good (AK.sl.e fun b hb => hb) (own_nn AK) (fun b hb hd => by have := hdl b hd; have := hak b hb; omega)) ?_
      rintro _ w15 ⟨rfl, ht⟩
      refine ⟨_, rfl, ?_⟩
      clear AK hak hdl k6
      obtain ⟨xs2, D2, hP2, hL2, hD2, k2⟩ := hP.to ht
      have hA2 : Apart (idK k9) k9 (ents xs2) (i + 1) := by rw [hL2]; exact (hA.add (x := idK k8) (key := k8) i8 hsame).mono (by omega)
      have n5' := hD2 _ n5 B5.lt
      have n7' := hD2 _ n7 B7.lt
      have n9' : ∀ j, blkOf a9 j → ¬ D2 j := fun j hj => hD2 j (n9 j hj) (A9.lt j hj)
      replace B5 := B5.kp k2 n5
      replace B7 := B7.kp k2 n7
      replace A9 := A9.kp k2 n9
      clear hP hA n5 n7 n9 ht hL2 hD2 k2
      (refine AtR_nil ?_; refine At_inBlock ?_; refine At_seq ?_; refine At_region ?_; refine s_mv ?_)
      refine s_val (x_load_all rfl B5 (by simp [i9])) ?_
      obtain ⟨e1, e2⟩ := hA2.ent hkn9
      refine s_call x_call (ringDerive_calls xs2 (idK k9) r bo 2 [] 64 none 0 0 _ (D' := fun _ => True) hP2.R hA2.good.sorted i9 hA2.good.keys slE_nil (by omega)) ?_
      rintro _ w16 ⟨k16, hp⟩
      rw [e2, if_pos rfl, if_pos (by omega), e1] at hp
      obtain ⟨ax, cx, rfl, AX, _⟩ := hp
      refine ⟨_, rfl, ?_⟩
      rw [show (64 : Int).toNat = 64 from rfl] at AX ⊢
      simp only at AX
      replace B5 := B5.kp k16 fun h => h
      replace B7 := B7.kp k16 fun h => h
      replace A9 := A9.kp k16 fun _ _ h => h
      replace hP2 := hP2.kpn k16
      clear k16
      (refine s_mv ?_; refine s_ex ?_; refine s_ex ?_; refine s_as ?_; refine s_as ?_; refine AtR_nil ?_; refine At_seq ?_; refine At_region ?_; refine s_mv ?_)
      refine s_val (x_load_all rfl B5 (by simp [i9])) ?_
      refine s_call x_call (status_calls xs2 (idK k9) r bo _ hP2.R hA2.good.sorted i9) ?_
      rintro _ w17 ⟨rfl, k17⟩
      refine ⟨_, rfl, ?_⟩
      rw [e2]
      replace B5 := B5.kp k17 fun h => h
      replace B7 := B7.kp k17 fun h => h
      replace A9 := A9.kp k17 fun _ _ h => h
      replace AX := AX.kp k17 fun _ _ h => h
      replace hP2 := hP2.kpn k17
      clear k17 e1 e2
      (refine s_neq ?_; refine s_mv ?_; refine s_yes rfl rfl rfl rfl ?_; refine g_mv ?_; refine s_yes rfl rfl rfl rfl ?_; refine g_neq ?_; refine s_pf ?_; refine s_mv ?_; refine s_yes rfl rfl rfl rfl ?_; refine g_mv ?_)
      refine s_yes rfl rfl rfl rfl (g_val (x_conv_bs rfl (AX.sl.e (D := fun _ => True) fun _ _ => trivial)) ?_)
      (refine s_yes rfl rfl rfl rfl ?_; refine g_mv ?_)
      refine s_yes rfl rfl rfl rfl (g_val (x_conv_bs rfl (A9.sl.e (D := fun _ => True) fun _ _ => trivial)) ?_)
      refine s_yes rfl rfl rfl rfl (g_val (x_neq_str rfl rfl) ?_)
      rw [show decide (derive k9 2 [] 64 ≠ derive k9 2 [] 64) = false from decide_eq_false (fun h => h rfl)]
      (refine s_pf ?_; refine AtR_nil ?_; refine At_cond_f rfl ?_; refine At_skip ?_; refine At_inBlock ?_; refine At_region ?_; refine s_mv ?_; refine s_ad ?_; refine s_as ?_; refine AtR_nil ?_)
      exact again (i + 1, xs2, D2) _ _ ⟨rfl, rfl, rfl, rfl, rfl, rfl, trivial⟩ ⟨hlt, hP2, hA2, ⟨B5, n5'⟩, ⟨B7, n7'⟩, A9, n9'⟩ (by simp only; omega)
      
    by_cases hme : m = 1
    · subst hme
      (refine s_eql ?_; refine s_as ?_; refine AtR_nil ?_; refine At_cond_f rfl ?_; refine At_seq ?_; refine At_region ?_; refine s_eql ?_; refine s_as ?_; refine AtR_nil ?_; refine At_cond_t rfl ?_; refine At_region ?_; refine s_mv ?_)
      refine s_val (x_load_all rfl B7 (by simp [i8])) ?_
      refine s_call x_call (remove_calls xs (idK k8) r bo _ hP.R hA.good.sorted i8) ?_
      rintro _ w15 ⟨rfl, ht⟩
      refine ⟨_, rfl, ?_⟩
      obtain ⟨xs2, D2, hP2, hL2, hD2, k2⟩ := hP.to ht
      have hA2 : Apart (idK k9) k9 (ents xs2) (i + 1) := by rw [hL2]; exact (hA.remove hsame).mono (by omega)
      have n5' := hD2 _ n5 B5.lt
      have n7' := hD2 _ n7 B7.lt
      have n9' : ∀ j, blkOf a9 j → ¬ D2 j := fun j hj => hD2 j (n9 j hj) (A9.lt j hj)
      replace B5 := B5.kp k2 n5
      replace B7 := B7.kp k2 n7
      replace A9 := A9.kp k2 n9
      clear hP hA n5 n7 n9 ht hL2 hD2 k2
      (refine AtR_nil ?_; refine At_inBlock ?_; refine At_seq ?_; refine At_region ?_; refine s_mv ?_)
      refine s_val (x_load_all rfl B5 (by simp [i9])) ?_
      obtain ⟨e1, e2⟩ := hA2.ent hkn9
      refine s_call x_call (ringDerive_calls xs2 (idK k9) r bo 2 [] 64 none 0 0 _ (D' := fun _ => True) hP2.R hA2.good.sorted i9 hA2.good.keys slE_nil (by omega)) ?_
      rintro _ w16 ⟨k16, hp⟩
      rw [e2, if_pos rfl, if_pos (by omega), e1] at hp
      obtain ⟨ax, cx, rfl, AX, _⟩ := hp
      refine ⟨_, rfl, ?_⟩
      rw [show (64 : Int).toNat = 64 from rfl] at AX ⊢
      simp only at AX
      replace B5 := B5.kp k16 fun h => h
      replace B7 := B7.kp k16 fun h => h
      replace A9 := A9.kp k16 fun _ _ h => h
      replace hP2 := hP2.kpn k16
      clear k16
      (refine s_mv ?_; refine s_ex ?_; refine s_ex ?_; refine s_as ?_; refine s_as ?_; refine AtR_nil ?_; refine At_seq ?_; refine At_region ?_; refine s_mv ?_)
      refine s_val (x_load_all rfl B5 (by simp [i9])) ?_
      refine s_call x_call (status_calls xs2 (idK k9) r bo _ hP2.R hA2.good.sorted i9) ?_
      rintro _ w17 ⟨rfl, k17⟩
      refine ⟨_, rfl, ?_⟩
      rw [e2]
      replace B5 := B5.kp k17 fun h => h
      replace B7 := B7.kp k17 fun h => h
      replace A9 := A9.kp k17 fun _ _ h => h
      replace AX := AX.kp k17 fun _ _ h => h
      replace hP2 := hP2.kpn k17
      clear k17 e1 e2
      (refine s_neq ?_; refine s_mv ?_; refine s_yes rfl rfl rfl rfl ?_; refine g_mv ?_; refine s_yes rfl rfl rfl rfl ?_; refine g_neq ?_; refine s_pf ?_; refine s_mv ?_; refine s_yes rfl rfl rfl rfl ?_; refine g_mv ?_)
      refine s_yes rfl rfl rfl rfl (g_val (x_conv_bs rfl (AX.sl.e (D := fun _ => True) fun _ _ => trivial)) ?_)
      (refine s_yes rfl rfl rfl rfl ?_; refine g_mv ?_)
      refine s_yes rfl rfl rfl rfl (g_val (x_conv_bs rfl (A9.sl.e (D := fun _ => True) fun _ _ => trivial)) ?_)
      refine s_yes rfl rfl rfl rfl (g_val (x_neq_str rfl rfl) ?_)
      rw [show decide (derive k9 2 [] 64 ≠ derive k9 2 [] 64) = false from decide_eq_false (fun h => h rfl)]
      (refine s_pf ?_; refine AtR_nil ?_; refine At_cond_f rfl ?_; refine At_skip ?_; refine At_inBlock ?_; refine At_region ?_; refine s_mv ?_; refine s_ad ?_; refine s_as ?_; refine AtR_nil ?_)
      exact again (i + 1, xs2, D2) _ _ ⟨rfl, rfl, rfl, rfl, rfl, rfl, trivial⟩ ⟨hlt, hP2, hA2, ⟨B5, n5'⟩, ⟨B7, n7'⟩, A9, n9'⟩ (by simp only; omega)
      
    by_cases hme : m = 2
    · subst hme
      (refine s_eql ?_; refine s_as ?_; refine AtR_nil ?_; refine At_cond_f rfl ?_; refine At_seq ?_; refine At_region ?_; refine s_eql ?_; refine s_as ?_; refine AtR_nil ?_; refine At_cond_f rfl ?_; refine At_seq ?_; refine At_region ?_; refine s_eql ?_; refine s_as ?_; refine AtR_nil ?_; refine At_cond_t rfl ?_; refine At_region ?_; refine s_mv ?_)
      refine s_val (x_load_all rfl B7 (by simp [i8])) ?_
      refine s_call x_call (hold_calls xs (idK k8) r bo _ hP.R hA.good.sorted i8 (fun e he => by have := hA.few e he; omega)) ?_
      rintro _ w15 ⟨rfl, ht⟩
      refine ⟨_, rfl, ?_⟩
      obtain ⟨xs2, D2, hP2, hL2, hD2, k2⟩ := hP.to ht
      have hA2 : Apart (idK k9) k9 (ents xs2) (i + 1) := by rw [hL2]; exact hA.hold hsame
      have n5' := hD2 _ n5 B5.lt
      have n7' := hD2 _ n7 B7.lt
      have n9' : ∀ j, blkOf a9 j → ¬ D2 j := fun j hj => hD2 j (n9 j hj) (A9.lt j hj)
      replace B5 := B5.kp k2 n5
      replace B7 := B7.kp k2 n7
      replace A9 := A9.kp k2 n9
      clear hP hA n5 n7 n9 ht hL2 hD2 k2
      (refine AtR_nil ?_; refine At_inBlock ?_; refine At_seq ?_; refine At_region ?_; refine s_mv ?_)
      refine s_val (x_load_all rfl B5 (by simp [i9])) ?_
      obtain ⟨e1, e2⟩ := hA2.ent hkn9
      refine s_call x_call (ringDerive_calls xs2 (idK k9) r bo 2 [] 64 none 0 0 _ (D' := fun _ => True) hP2.R hA2.good.sorted i9 hA2.good.keys slE_nil (by omega)) ?_
      rintro _ w16 ⟨k16, hp⟩
      rw [e2, if_pos rfl, if_pos (by omega), e1] at hp
      obtain ⟨ax, cx, rfl, AX, _⟩ := hp
      refine ⟨_, rfl, ?_⟩
      rw [show (64 : Int).toNat = 64 from rfl] at AX ⊢
      simp only at AX
      replace B5 := B5.kp k16 fun h => h
      replace B7 := B7.kp k16 fun h => h
      replace A9 := A9.kp k16 fun _ _ h => h
      replace hP2 := hP2.kpn k16
      clear k16
      (refine s_mv ?_; refine s_ex ?_; refine s_ex ?_; refine s_as ?_; refine s_as ?_; refine AtR_nil ?_; refine At_seq ?_; refine At_region ?_; refine s_mv ?_)
      refine s_val (x_load_all rfl B5 (by simp [i9])) ?_
      refine s_call x_call (status_calls xs2 (idK k9) r bo _ hP2.R hA2.good.sorted i9) ?_
      rintro _ w17 ⟨rfl, k17⟩
      refine ⟨_, rfl, ?_⟩
      rw [e2]
      replace B5 := B5.kp k17 fun h => h
      replace B7 := B7.kp k17 fun h => h
      replace A9 := A9.kp k17 fun _ _ h => h
      replace AX := AX.kp k17 fun _ _ h => h
      replace hP2 := hP2.kpn k17
      clear k17 e1 e2
      (refine s_neq ?_; refine s_mv ?_; refine s_yes rfl rfl rfl rfl ?_; refine g_mv ?_; refine s_yes rfl rfl rfl rfl ?_; refine g_neq ?_; refine s_pf ?_; refine s_mv ?_; refine s_yes rfl rfl rfl rfl ?_; refine g_mv ?_)
      refine s_yes rfl rfl rfl rfl (g_val (x_conv_bs rfl (AX.sl.e (D := fun _ => True) fun _ _ => trivial)) ?_)
      (refine s_yes rfl rfl rfl rfl ?_; refine g_mv ?_)
      refine s_yes rfl rfl rfl rfl (g_val (x_conv_bs rfl (A9.sl.e (D := fun _ => True) fun _ _ => trivial)) ?_)
      refine s_yes rfl rfl rfl rfl (g_val (x_neq_str rfl rfl) ?_)
      rw [show decide (derive k9 2 [] 64 ≠ derive k9 2 [] 64) = false from decide_eq_false (fun h => h rfl)]
      (refine s_pf ?_; refine AtR_nil ?_; refine At_cond_f rfl ?_; refine At_skip ?_; refine At_inBlock ?_; refine At_region ?_; refine s_mv ?_; refine s_ad ?_; refine s_as ?_; refine AtR_nil ?_)
      exact again (i + 1, xs2, D2) _ _ ⟨rfl, rfl, rfl, rfl, rfl, rfl, trivial⟩ ⟨hlt, hP2, hA2, ⟨B5, n5'⟩, ⟨B7, n7'⟩, A9, n9'⟩ (by simp only; omega)
      
    by_cases hme : m = 3
    · subst hme
      (refine s_eql ?_; refine s_as ?_; refine AtR_nil ?_; refine At_cond_f rfl ?_; refine At_seq ?_; refine At_region ?_; refine s_eql ?_; refine s_as ?_; refine AtR_nil ?_; refine At_cond_f rfl ?_; refine At_seq ?_; refine At_region ?_; refine s_eql ?_; refine s_as ?_; refine AtR_nil ?_; refine At_cond_f rfl ?_; refine At_seq ?_; refine At_region ?_; refine s_eql ?_; refine s_as ?_; refine AtR_nil ?_; refine At_cond_t rfl ?_; refine At_region ?_; refine s_mv ?_)
      refine s_val (x_load_all rfl B7 (by simp [i8])) ?_
      refine s_call x_call (release_calls xs (idK k8) r bo _ hP.R hA.good.sorted i8) ?_
      rintro _ w15 ⟨rfl, ht⟩
      refine ⟨_, rfl, ?_⟩
      obtain ⟨xs2, D2, hP2, hL2, hD2, k2⟩ := hP.to ht
      have hA2 : Apart (idK k9) k9 (ents xs2) (i + 1) := by rw [hL2]; exact (hA.release hsame).mono (by omega)
      have n5' := hD2 _ n5 B5.lt
      have n7' := hD2 _ n7 B7.lt
      have n9' : ∀ j, blkOf a9 j → ¬ D2 j := fun j hj => hD2 j (n9 j hj) (A9.lt j hj)
      replace B5 := B5.kp k2 n5
      replace B7 := B7.kp k2 n7
      replace A9 := A9.kp k2 n9
      clear hP hA n5 n7 n9 ht hL2 hD2 k2
      (refine AtR_nil ?_; refine At_inBlock ?_; refine At_seq ?_; refine At_region ?_; refine s_mv ?_)
      refine s_val (x_load_all rfl B5 (by simp [i9])) ?_
      obtain ⟨e1, e2⟩ := hA2.ent hkn9
      refine s_call x_call (ringDerive_calls xs2 (idK k9) r bo 2 [] 64 none 0 0 _ (D' := fun _ => True) hP2.R hA2.good.sorted i9 hA2.good.keys slE_nil (by omega)) ?_
      rintro _ w16 ⟨k16, hp⟩
      rw [e2, if_pos rfl, if_pos (by omega), e1] at hp
      obtain ⟨ax, cx, rfl, AX, _⟩ := hp
      refine ⟨_, rfl, ?_⟩
      rw [show (64 : Int).toNat = 64 from rfl] at AX ⊢
      simp only at AX
      replace B5 := B5.kp k16 fun h => h
      replace B7 := B7.kp k16 fun h => h
      replace A9 := A9.kp k16 fun _ _ h => h
      replace hP2 := hP2.kpn k16
      clear k16
      (refine s_mv ?_; refine s_ex ?_; refine s_ex ?_; refine s_as ?_; refine s_as ?_; refine AtR_nil ?_; refine At_seq ?_; refine At_region ?_; refine s_mv ?_)
      refine s_val (x_load_all rfl B5 (by simp [i9])) ?_
      refine s_call x_call (status_calls xs2 (idK k9) r bo _ hP2.R hA2.good.sorted i9) ?_
      rintro _ w17 ⟨rfl, k17⟩
      refine ⟨_, rfl, ?_⟩
      rw [e2]
      replace B5 := B5.kp k17 fun h => h
      replace B7 := B7.kp k17 fun h => h
      replace A9 := A9.kp k17 fun _ _ h => h
      replace AX := AX.kp k17 fun _ _ h => h
      replace hP2 := hP2.kpn k17
      clear k17 e1 e2
      (refine s_neq ?_; refine s_mv ?_; refine s_yes rfl rfl rfl rfl ?_; refine g_mv ?_; refine s_yes rfl rfl rfl rfl ?_; refine g_neq ?_; refine s_pf ?_; refine s_mv ?_; refine s_yes rfl rfl rfl rfl ?_; refine g_mv ?_)
      refine s_yes rfl rfl rfl rfl (g_val (x_conv_bs rfl (AX.sl.e (D := fun _ => True) fun _ _ => trivial)) ?_)
      (refine s_yes rfl rfl rfl rfl ?_; refine g_mv ?_)
      refine s_yes rfl rfl rfl rfl (g_val (x_conv_bs rfl (A9.sl.e (D := fun _ => True) fun _ _ => trivial)) ?_)
      refine s_yes rfl rfl rfl rfl (g_val (x_neq_str rfl rfl) ?_)
      rw [show decide (derive k9 2 [] 64 ≠ derive k9 2 [] 64) = false from decide_eq_false (fun h => h rfl)]
      (refine s_pf ?_; refine AtR_nil ?_; refine At_cond_f rfl ?_; refine At_skip ?_; refine At_inBlock ?_; refine At_region ?_; refine s_mv ?_; refine s_ad ?_; refine s_as ?_; refine AtR_nil ?_)
      exact again (i + 1, xs2, D2) _ _ ⟨rfl, rfl, rfl, rfl, rfl, rfl, trivial⟩ ⟨hlt, hP2, hA2, ⟨B5, n5'⟩, ⟨B7, n7'⟩, A9, n9'⟩ (by simp only; omega)
      
    have hme : m = 4 := by omega
    subst hme
    (refine s_eql ?_; refine s_as ?_; refine AtR_nil ?_; refine At_cond_f rfl ?_; refine At_seq ?_; refine At_region ?_; refine s_eql ?_; refine s_as ?_; refine AtR_nil ?_; refine At_cond_f rfl ?_; refine At_seq ?_; refine At_region ?_; refine s_eql ?_; refine s_as ?_; refine AtR_nil ?_; refine At_cond_f rfl ?_; refine At_seq ?_; refine At_region ?_; refine s_eql ?_; refine s_as ?_; refine AtR_nil ?_; refine At_cond_f rfl ?_; refine At_seq ?_; refine At_region ?_; refine s_eql ?_; refine s_as ?_; refine AtR_nil ?_; refine At_cond_t rfl ?_; refine At_region ?_; refine s_mv ?_)
    refine s_call x_call (lawKey_calls 7 32 _ (by omega)) ?_
    rintro _ w14 ⟨ak, ck, rfl, AK, hak, k6⟩
    rw [← h7] at AK
    refine ⟨_, rfl, ?_⟩
    have hdl := hP.R.dlt
    replace hP := hP.kpn k6
    replace B5 := B5.kp k6 fun h => h
    replace B7 := B7.kp k6 fun h => h
    replace A9 := A9.kp k6 fun _ _ h => h
    refine s_call x_call (add_calls xs k7 ak 32 ck r bo _ hP.R hA.good (AK.sl.e fun b hb => hb) (own_nn AK) (fun b hb hd => by have := hdl b hd; have := hak b hb; omega)) ?_
    rintro _ w15 ⟨rfl, ht⟩
    refine ⟨_, rfl, ?_⟩
    clear AK hak hdl k6
    obtain ⟨xs2, D2, hP2, hL2, hD2, k2⟩ := hP.to ht
    have hA2 : Apart (idK k9) k9 (ents xs2) (i + 1) := by rw [hL2]; exact (hA.add (x := idK k7) (key := k7) i7 hfar).mono (by omega)
    have n5' := hD2 _ n5 B5.lt
    have n7' := hD2 _ n7 B7.lt
    have n9' : ∀ j, blkOf a9 j → ¬ D2 j := fun j hj => hD2 j (n9 j hj) (A9.lt j hj)
    replace B5 := B5.kp k2 n5
    replace B7 := B7.kp k2 n7
    replace A9 := A9.kp k2 n9
    clear hP hA n5 n7 n9 ht hL2 hD2 k2
    (refine AtR_nil ?_; refine At_inBlock ?_; refine At_seq ?_; refine At_region ?_; refine s_mv ?_)
    refine s_val (x_load_all rfl B5 (by simp [i9])) ?_
    obtain ⟨e1, e2⟩ := hA2.ent hkn9
    refine s_call x_call (ringDerive_calls xs2 (idK k9) r bo 2 [] 64 none 0 0 _ (D' := fun _ => True) hP2.R hA2.good.sorted i9 hA2.good.keys slE_nil (by omega)) ?_
    rintro _ w16 ⟨k16, hp⟩
    rw [e2, if_pos rfl, if_pos (by omega), e1] at hp
    obtain ⟨ax, cx, rfl, AX, _⟩ := hp
    refine ⟨_, rfl, ?_⟩
    rw [show (64 : Int).toNat = 64 from rfl] at AX ⊢
    simp only at AX
    replace B5 := B5.kp k16 fun h => h
    replace B7 := B7.kp k16 fun h => h
    replace A9 := A9.kp k16 fun _ _ h => h
    replace hP2 := hP2.kpn k16
    clear k16
    (refine s_mv ?_; refine s_ex ?_; refine s_ex ?_; refine s_as ?_; refine s_as ?_; refine AtR_nil ?_; refine At_seq ?_; refine At_region ?_; refine s_mv ?_)
    refine s_val (x_load_all rfl B5 (by simp [i9])) ?_
    refine s_call x_call (status_calls xs2 (idK k9) r bo _ hP2.R hA2.good.sorted i9) ?_
    rintro _ w17 ⟨rfl, k17⟩
    refine ⟨_, rfl, ?_⟩
    rw [e2]
    replace B5 := B5.kp k17 fun h => h
    replace B7 := B7.kp k17 fun h => h
    replace A9 := A9.kp k17 fun _ _ h => h
    replace AX := AX.kp k17 fun _ _ h => h
    replace hP2 := hP2.kpn k17
    clear k17 e1 e2
    (refine s_neq ?_; refine s_mv ?_; refine s_yes rfl rfl rfl rfl ?_; refine g_mv ?_; refine s_yes rfl rfl rfl rfl ?_; refine g_neq ?_; refine s_pf ?_; refine s_mv ?_; refine s_yes rfl rfl rfl rfl ?_; refine g_mv ?_)
    refine s_yes rfl rfl rfl rfl (g_val (x_conv_bs rfl (AX.sl.e (D := fun _ => True) fun _ _ => trivial)) ?_)
    (refine s_yes rfl rfl rfl rfl ?_; refine g_mv ?_)
    refine s_yes rfl rfl rfl rfl (g_val (x_conv_bs rfl (A9.sl.e (D := fun _ => True) fun _ _ => trivial)) ?_)
    refine s_yes rfl rfl rfl rfl (g_val (x_neq_str rfl rfl) ?_)
    rw [show decide (derive k9 2 [] 64 ≠ derive k9 2 [] 64) = false from decide_eq_false (fun h => h rfl)]
    (refine s_pf ?_; refine AtR_nil ?_; refine At_cond_f rfl ?_; refine At_skip ?_; refine At_inBlock ?_; refine At_region ?_; refine s_mv ?_; refine s_ad ?_; refine s_as ?_; refine AtR_nil ?_)
    exact again (i + 1, xs2, D2) _ _ ⟨rfl, rfl, rfl, rfl, rfl, rfl, trivial⟩ ⟨hlt, hP2, hA2, ⟨B5, n5'⟩, ⟨B7, n7'⟩, A9, n9'⟩ (by simp only; omega)
    
  have him : i = kx.length := by omega
  clear again
  (refine At_seq ?_; refine At_seq ?_; refine At_region ?_; refine s_mv ?_; refine s_mv ?_; refine s_ln ?_; refine s_lss ?_; refine AtR_nil ?_; refine At_cond_f rfl ?_; refine At_exit rfl ?_; refine At_seq ?_; refine At_region ?_; refine s_mv ?_)
  refine s_val (x_load_all rfl B5 (by simp [i9])) ?_
  obtain ⟨e1, e2⟩ := hA.ent hkn9
  refine s_call x_call (remove_calls xs (idK k9) r bo _ hP.R hA.good.sorted i9) ?_
  rintro _ w15 ⟨rfl, ht⟩
  refine ⟨_, rfl, ?_⟩
  rw [e2, e1]
  obtain ⟨xs2, D2, hP2, _, _, _⟩ := hP.to ht
  (refine s_mv ?_; refine s_ex ?_; refine s_ex ?_; refine s_as ?_; refine s_as ?_; refine AtR_nil ?_; refine At_seq ?_; refine At_region ?_; refine s_mv ?_; refine s_nt ?_; refine s_mv ?_; refine s_yes rfl rfl rfl rfl ?_; refine g_mv ?_; refine s_yes rfl rfl rfl rfl ?_; refine g_eql ?_; refine s_pt ?_; refine s_as ?_; refine AtR_nil ?_)
  refine At_ret1 Tryd.func7 rfl (by conv => lhs; whnf) ?_
  exact ⟨rfl, hP2.K.below⟩
end Go.Proofs.YtfngacepjcdlnaaDoor

namespace Go.Proofs.YtfngacepjcdlnaaDoor
open Go Go.Kx Go.Kr
theorem octets_in {xs : List Int} (h : ∀ x ∈ xs, (Lit.int .u8 x).wf = true) : ∃ l : List UInt8, xs = bs8 l := by
  obtain ⟨l, e, _⟩ := octs_of (m := xs.length) (xs := xs) (by simp) (fun i k hk => by
    obtain ⟨hi, rfl⟩ : i < xs.length ∧ k = .u8 := by
      rw [List.getElem?_replicate] at hk
      split at hk
      · exact ⟨‹_›, (Option.some.inj hk).symm⟩
      · cases hk
    have hx : xs.getD i 0 = xs[i] := by simp [List.getD, hi]
    rw [hx]
    have := wf_bounds (h _ (List.getElem_mem hi))
    simpa [IntKind.has] using this)
  exact ⟨l, e⟩
theorem apart_in (W : World) (hC : ∃ fz, Blk W 1 243 fz (ints .u64 (ws kSha))) (a : Option Addr) (len cap : Nat) (z : List Int) (hk : Sl W .u8 a len cap z) (hz : ∀ x ∈ z, (Lit.int .u8 x).wf = true) :
    Calls Tryd.prog 7 #[.slice a len cap] W fun e w' => e = .returned (.bool true) ∧ RowKit.Below W.heap.size W w' := by
  obtain ⟨kx, rfl⟩ := octets_in hz
  exact apart_row W hC kx a len cap hk
end Go.Proofs.YtfngacepjcdlnaaDoor
