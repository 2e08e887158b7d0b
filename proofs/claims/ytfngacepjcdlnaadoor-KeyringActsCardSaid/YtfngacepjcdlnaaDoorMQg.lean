/- The law KeyringActs, as a walk. -/
import Derived.Test.YtfngacepjcdlnaaDoorMEc
import Derived.Test.YtfngacepjcdlnaaDoorMKw
import Derived.Test.YtfngacepjcdlnaaDoorMQb
set_option linter.unusedVariables false
namespace Go.Proofs.YtfngacepjcdlnaaDoor
open Go Go.Kx Go.Kr
theorem built83 : Tryd.prog.built 83 [] = some [.slice none 0 0].toArray := by kernel_rfl
theorem ringNil_calls (w : World) : Calls Tryd.prog 17 #[.pointer none] w fun e w' => e = .returned (.tuple #[.pointer none, .int .i64 1]) ∧ w = w' := by
  refine calls_at (n := 9) Tryd.func17 rfl rfl (by simp) ?_
  (refine At_seq ?_; refine At_region ?_; refine s_as ?_; refine s_as ?_; refine AtR_nil ?_; refine At_seq ?_; refine At_seq ?_; refine At_region ?_; refine s_mv ?_; refine s_eqln ?_; refine AtR_nil ?_; refine At_cond_t rfl ?_; refine At_seq ?_; refine At_region ?_; refine s_as ?_; refine s_as ?_; refine AtR_nil ?_)
  refine At_ret2 Tryd.func17 rfl (by conv => lhs; whnf) (by conv => lhs; whnf) ?_
  exact ⟨rfl, rfl⟩
theorem own_nn {w : World} {ak : Option Addr} {n ck : Nat} {xs : List Value} (AK : Own w 5 1 ak n ck xs) (h : ak = none) : n = 0 := by subst h; exact own_none AK
theorem octet_in {c : Int} (h : 0 ≤ c ∧ c ≤ 255) : ∃ u : UInt8, c = ub u := ⟨UInt8.ofNat c.toNat, by
  rw [← wrap_u8n, wrap_u8]
  omega⟩
set_option maxRecDepth 100000 in
set_option maxHeartbeats 16000000 in
theorem acts_row (W : World) (hC : ∃ fz, Blk W 1 243 fz (ints .u64 (ws kSha))) (a : Option Addr) (len cap : Nat) (acs : List ActT) (hs : SlT W a len cap acs (fun b => b < W.heap.size)) :
    Calls Tryd.prog 10 #[.slice a len cap] W fun e w' => e = .returned (.bool true) ∧ RowKit.Below W.heap.size W w' := by
  have hl := hs.len_eq
  refine calls_at (n := 224) Tryd.func10 rfl rfl (by simp) ?_
  (refine At_seq ?_; refine At_region ?_; refine s_as ?_; refine AtR_nil ?_; refine At_seq ?_; refine At_seq ?_; refine At_region ?_)
  refine s_call x_call (awake23_calls _ hC) ?_
  rintro _ w1 ⟨rfl, K⟩
  refine ⟨_, rfl, ?_⟩
  have hC1 : ∃ fz, Blk w1 1 243 fz (ints .u64 (ws kSha)) := by obtain ⟨fz, hc⟩ := hC; exact ⟨fz, hc.kp K fun h => h⟩
  by_cases hln : 15 < len
  · (refine s_nt ?_; refine s_mv ?_; refine s_yes rfl rfl rfl rfl ?_; refine g_mv ?_; refine s_yes rfl rfl rfl rfl ?_; refine g_ln ?_; refine s_yes rfl rfl rfl rfl ?_; refine g_gtr ?_; refine s_pf ?_; refine AtR_nil ?_; refine At_cond_t rfl ?_; refine At_seq ?_; refine At_region ?_)
    refine s_call x_call (awake23_calls _ hC1) ?_
    rintro _ w3 ⟨rfl, k3⟩
    refine ⟨_, rfl, ?_⟩
    (refine s_as ?_; refine AtR_nil ?_)
    refine At_ret1 Tryd.func10 rfl (by conv => lhs; whnf) ?_
    exact ⟨rfl, (K.trans k3).below⟩
  (refine s_nt ?_; refine s_mv ?_; refine s_yes rfl rfl rfl rfl ?_; refine g_mv ?_; refine s_yes rfl rfl rfl rfl ?_; refine g_ln ?_; refine s_yes rfl rfl rfl rfl ?_; refine g_gtr ?_; refine s_pf ?_; refine AtR_nil ?_; refine At_cond_f rfl ?_; refine At_skip ?_; refine At_seq ?_; refine At_region ?_)
  refine s_call x_call (real_calls _) ?_
  rintro _ w3 ⟨bo, rfl, BO, hbo, k3⟩
  refine ⟨_, rfl, ?_⟩
  refine s_call x_call (ring_calls bo _) ?_
  rintro _ w4 ⟨r, rfl, BR, hr, k4⟩
  refine ⟨_, rfl, ?_⟩
  have hP := Pack.make hC (K.trans k3) BO BR hr k4
  generalize (fun j => j = r) = D0 at hP
  have hone : 1 < W.heap.size := by obtain ⟨fz, hc⟩ := hC; exact hc.lt
  (refine s_mv ?_; refine s_ex ?_; refine s_ex ?_; refine s_as ?_; refine s_as ?_; refine AtR_nil ?_; refine At_seq ?_; refine At_region ?_)
  refine s_val (x_build (by first | rfl | exact rfl) built83) ?_
  refine AtR_go rfl (AtG_box rfl fun q w5 hq e5 => ?_)
  have BQ : Blk w5 q 83 (0, 0) [.slice none 0 0] := e5.blk
  have k5 : Kp No w4 w5 := e5.kp (.inr (by omega))
  have hbo4 := hP.R.ob.lt
  have hD4 := hP.R.dlt
  have hz4 := hP.K.size
  have T0 : Twin W w5 r bo q [] D0 (fun j => j = q) 0 := ⟨⟨hP.kpn k5, ⟨⟨none, 0, BQ, Own.nil _ _ _, fun j hj => by simp [blkOf] at hj⟩, rfl, fun j hj => by subst hj; exact BQ.lt⟩, fun j hj => by subst hj; omega, fun j hj e => by subst e; have := hD4 _ hj; omega, fun e => by omega, hone⟩, Good.nil, fun e he => by cases he⟩
  clear BO BR hr k4 K k3 hbo hC1 hP BQ k5 hbo4 hD4 hz4 e5 hq
  (refine s_as ?_; refine AtR_nil ?_; refine At_seq ?_; refine At_seq ?_; refine At_region ?_; refine s_as ?_; refine AtR_nil ?_; refine At_block ?_)
  refine At_while (fun i : Nat => [(0, .slice a len cap), (3, .pointer (some ⟨r, 0, none⟩)), (5, .pointer (some ⟨q, 0, none⟩)), (6, .int .i64 (i : Int))])
    (fun i w' => i ≤ len ∧ ∃ xs D D2, Twin W w' r bo q xs D D2 i) (fun i => len - i) 0 ⟨rfl, rfl, rfl, rfl, trivial⟩ ⟨by omega, [], D0, _, T0⟩ ?_
  clear T0
  rintro i w2 junk ⟨hi, xs, D, D2, T⟩ again
  by_cases hlt : i < len
  · obtain ⟨b, off, rfl, ⟨kd, m, c⟩, hget, hsg, hbW, hwf⟩ := (hs.kpn T.d.P.K).get hlt
    obtain ⟨u, rfl⟩ := octet_in hwf.c
    have hm := hwf.m
    have hkd := hwf.kind
    simp only at hm hkd
    replace hsg : Seg w2 b (off + i * 3) [.int .i64 kd, .int .i64 m, .int .u8 (ub u)] := hsg
    have hcap := hs.le
    have hmx := hs.max
    (refine At_seq ?_; refine At_seq ?_; refine At_region ?_; refine s_mv ?_; refine s_mv ?_; refine s_ln ?_; refine s_lss ?_; refine AtR_nil ?_; refine At_cond_t rfl ?_; refine At_skip ?_; refine At_seq ?_; refine At_block ?_; refine At_seq ?_; refine At_region ?_; refine s_mv ?_; refine s_mv ?_)
    refine s_val (x_indexAddr rfl rfl (by omega) (by omega)) ?_
    rw [Int.toNat_natCast]
    refine s_val (x_load_segN rfl hsg rfl) ?_
    refine AtR_go rfl (AtG_alloc fun bA w3 hbA e3 => ?_)
    refine AtR_go rfl (G_skip (r_storeN (cs := z85) (vs := [.int .i64 kd, .int .i64 m, .int .u8 (ub u)]) rfl rfl e3.blk rfl (Nat.le_refl _) rfl) fun w4 e4 => ?_)
    have BA : Blk w4 bA 85 (0, 0) [.int .i64 kd, .int .i64 m, .int .u8 (ub u)] := e4.blk
    have K4 : Kp No w2 w4 := (e3.kp (S := No) (.inr (by omega))).trans' (e4.kp (S := fun j => j = bA) (.inl rfl)) (by rintro j rfl; right; omega)
    obtain ⟨nA, nA2⟩ := T.d.not (b := bA) (by omega)
    have hAW : W.heap.size ≤ bA := by have := T.d.P.K.size; omega
    replace T := T.kpn K4
    clear e3 e4 K4 hsg
    (refine AtR_nil ?_; refine At_seq ?_; refine At_region ?_; refine s_fa ?_; refine s_ld ?_)
    refine s_call x_call (lawKey_calls u 32 _ (by omega)) ?_
    rintro _ w5 ⟨ak, ck, rfl, AK, hak, k5⟩
    obtain ⟨kk, hkk⟩ : ∃ k : List UInt8, k = List.replicate 32 u := ⟨_, rfl⟩
    rw [← hkk] at AK
    have lk : kk.length = 32 := by rw [hkk]; simp
    have li := idK_length kk
    have hkn : kk ≠ [] := fun h => by rw [h] at lk; cases lk
    refine ⟨_, rfl, ?_⟩
    have hda := T.d.P.R.dlt
    have hdq := T.d.Q.dlt
    replace T := T.kpn k5
    replace BA := BA.kp k5 fun h => h
    (refine s_as ?_; refine AtR_nil ?_; refine At_seq ?_; refine At_region ?_; refine s_mv ?_)
    refine s_call x_call (idR_calls kk ak 32 ck _ (AK.sl.e (D := fun _ => True) fun b hb => trivial) (by omega)) ?_
    rintro _ w6 ⟨rfl, k6⟩
    refine ⟨_, rfl, ?_⟩
    replace T := T.kpn k6
    replace BA := BA.kp k6 fun h => h
    replace AK := AK.kp k6 fun _ _ h => h
    (refine s_as ?_; refine AtR_nil ?_; refine At_seq ?_; refine At_region ?_)
    refine AtR_go rfl (AtG_alloc fun bI w7 hbI e7 => ?_)
    have BI0 : Blk w7 bI 22 (0, 0) z22 := e7.blk
    have k7 : Kp No w6 w7 := e7.kp (.inr (by omega))
    obtain ⟨nI, nI2⟩ := T.d.not (b := bI) (by omega)
    have hIW : W.heap.size ≤ bI := by have := T.d.P.K.size; omega
    have hAI : bA ≠ bI := fun e => by have := BA.lt; omega
    have hKI : ¬ blkOf ak bI := fun h => by have := AK.lt _ h; omega
    replace T := T.kpn k7
    replace BA := BA.kp k7 fun h => h
    replace AK := AK.kp k7 fun _ _ h => h
    clear e7
    (refine AtR_nil ?_; refine At_seq ?_; refine At_region ?_)
    refine s_val (x_slice_arr rfl) ?_
    (refine s_mv ?_)
    refine AtR_go rfl (G_val (r_copy_str rfl rfl li BI0 (by simp [z22])) ?_)
    rintro _ w8 ⟨rfl, e8⟩
    have BI : Blk w8 bI 22 (0, 0) (ints .u8 (bs8 (idK kk))) := by
      have := e8.blk
      rwa [lay_all (by simp [z22, li])] at this
    have k8 : Kp (fun j => j = bI) w7 w8 := e8.kp (.inl rfl)
    have d8 := T.d.own k8 BI0 nI nI2 hIW (by decide) (by decide)
    replace T : Twin W w8 r bo q xs D D2 i := ⟨d8, T.good, T.few⟩
    replace BA := BA.kp k8 hAI
    replace AK := AK.kp k8 fun j hj e => hKI (e ▸ hj)
    clear e8 d8 k8 k7 k6 k5 BI0
    have zW := T.d.P.K.size
    (refine AtR_nil ?_; refine At_seq ?_; refine At_region ?_; refine s_as ?_; refine AtR_nil ?_; refine At_seq ?_; refine At_seq ?_; refine At_region ?_; refine s_fa ?_; refine s_ld ?_; refine AtR_nil ?_)
    refine At_meet (σ := Unit) (fun _ => [(0, .slice (some ⟨b, off, none⟩) len cap), (3, .pointer (some ⟨r, 0, none⟩)), (5, .pointer (some ⟨q, 0, none⟩)), (6, .int .i64 (i : Int)), (9, strV (idK kk)), (10, .pointer (some ⟨bI, 0, none⟩)), (11, .bool true)])
      (fun _ w' => ∃ xs D D2, Twin W w' r bo q xs D D2 (i + 1) ∧ Blk w' bI 22 (0, 0) (ints .u8 (bs8 (idK kk)))) ?_ ?_
    · clear T BA AK nA nA2 nI nI2 hda hdq xs D D2
      rintro _ w9 junk2 ⟨xs, D, D2, T, BI⟩
      (refine At_seq ?_; refine At_region ?_; refine s_mv ?_; refine s_nt ?_; refine s_mv ?_; refine s_yes rfl rfl rfl rfl ?_; refine g_mv ?_; refine s_yes rfl rfl rfl rfl ?_; refine g_mv ?_)
      refine s_yes rfl rfl rfl rfl ?_
      refine g_call x_call (same_calls xs r bo q _ T.d.P.R T.d.Q T.good) ?_
      rintro _ w10 ⟨rfl, k10⟩
      refine ⟨_, rfl, ?_⟩
      replace T := T.kpn k10
      replace BI := BI.kp k10 fun h => h
      (refine s_yes rfl rfl rfl rfl ?_; refine g_nt ?_; refine s_pf ?_; refine s_mv ?_; refine s_yes rfl rfl rfl rfl ?_; refine g_mv ?_)
      refine s_yes rfl rfl rfl rfl (g_val (x_load_all rfl BI (by simp [li])) ?_)
      refine s_yes rfl rfl rfl rfl ?_
      refine g_call x_call (status_calls xs (idK kk) r bo _ T.d.P.R T.good.sorted li) ?_
      rintro _ w11 ⟨rfl, k11⟩
      refine ⟨_, rfl, ?_⟩
      replace T := T.kpn k11
      (refine s_yes rfl rfl rfl rfl ?_; refine g_mv ?_; refine s_yes rfl rfl rfl rfl ?_; refine g_mv ?_)
      refine s_yes rfl rfl rfl rfl ?_
      refine g_call x_call (statusR_calls (ents xs) (idK kk) q _ T.d.Q T.good) ?_
      rintro _ _ ⟨rfl, rfl⟩
      refine ⟨_, rfl, ?_⟩
      (refine s_yes rfl rfl rfl rfl ?_; refine g_neq ?_; refine s_pf ?_; refine AtR_nil ?_; refine At_cond_f rfl ?_; refine At_skip ?_; refine At_inBlock ?_; refine At_region ?_; refine s_mv ?_; refine s_ad ?_; refine s_as ?_; refine AtR_nil ?_)
      exact again (i + 1) _ _ ⟨rfl, rfl, rfl, rfl, trivial⟩ ⟨hlt, xs, D, D2, T⟩ (by omega)
    · intro join
      clear again
      have hroom : Room (ents xs) := fun e he => by have := (T.few e he).1; omega
      by_cases c0 : kd = 0
      · obtain ⟨nn, hnn, hn100⟩ : ∃ nn : Nat, max 0 (min m 100) = (nn : Int) ∧ nn ≤ 100 := ⟨(max 0 (min m 100)).toNat, by omega, by omega⟩
        (refine At_block ?_; refine At_seq ?_; refine At_region ?_; refine s_eql ?_; refine s_as ?_; refine AtR_nil ?_; refine At_cond_t rfl ?_; refine At_seq ?_; refine At_region ?_; refine s_fa ?_; refine s_ld ?_)
        refine s_val (x_min rfl rfl) ?_
        refine s_val (x_max rfl rfl) ?_
        rw [hnn]
        (refine s_as ?_; refine AtR_nil ?_; refine At_seq ?_; refine At_region ?_; refine s_mv ?_; refine s_fa ?_; refine s_ld ?_; refine s_mv ?_)
        refine s_call x_call (lawKey_calls u nn _ (by omega)) ?_
        rintro _ w9 ⟨a9, c9, rfl, A9, h9, k9⟩
        obtain ⟨kn, hkn9⟩ : ∃ k : List UInt8, k = List.replicate nn u := ⟨_, rfl⟩
        rw [← hkn9] at A9
        have lkn : kn.length = nn := by rw [hkn9]; simp
        refine ⟨_, rfl, ?_⟩
        have hda9 := T.d.P.R.dlt
        replace T := T.kpn k9
        replace BA := BA.kp k9 fun h => h
        replace BI := BI.kp k9 fun h => h
        have n9 : ∀ b, blkOf a9 b → ¬ D b := fun b hb hd => by have := hda9 b hd; have := h9 b hb; omega
        skip
        refine s_call x_call (add_calls xs kn a9 nn c9 r bo _ T.d.P.R T.good (A9.sl.e fun b hb => hb) (own_nn A9) n9) ?_
        rintro _ w10 ⟨rfl, ht⟩
        refine ⟨_, rfl, ?_⟩
        obtain ⟨xs2, D', d2, hL2, hD2, k10⟩ := T.d.prog ht
        have nI' := hD2 _ nI BI.lt
        have nA' := hD2 _ nA BA.lt
        replace BA := BA.kp k10 nA
        replace BI := BI.kp k10 nI
        obtain ⟨idn, hidn⟩ : ∃ x : List UInt8, x = (if addOk (idK kn) kn (ents xs) = 0 then idK kn else List.replicate 16 0) := ⟨_, rfl⟩
        have lidn : idn.length = 16 := by rw [hidn]; split <;> simp [idK_length]
        rw [← hidn]
        clear ht k10 hD2 n9 k9
        (refine s_mv ?_; refine s_ex ?_; refine s_ex ?_)
        refine id_cell (fun _ => rfl) (fun _ => rfl) lidn fun b13 w11 hb13 B13 k11 => ?_
        have n13 := (d2.not hb13).2
        replace d2 := d2.kpn k11
        replace BA := BA.kp k11 fun h => h
        replace BI := BI.kp k11 fun h => h
        (refine s_as ?_; refine AtR_nil ?_; refine At_seq ?_; refine At_region ?_; refine s_mv ?_; refine s_fa ?_; refine s_ld ?_; refine s_mv ?_)
        refine s_call x_call (lawKey_calls u nn _ (by omega)) ?_
        rintro _ w12 ⟨a12, c12, rfl, A12, h12, k12⟩
        rw [← hkn9] at A12
        refine ⟨_, rfl, ?_⟩
        have hdq12 := d2.Q.dlt
        replace d2 := d2.kpn k12
        replace B13 := B13.kp k12 fun h => h
        replace BI := BI.kp k12 fun h => h
        have n12 : ∀ b, blkOf a12 b → ¬ D2 b := fun b hb hd => by have := hdq12 b hd; have := h12 b hb; omega
        skip
        refine s_call x_call (addR_calls (ents xs) kn a12 nn c12 q _ d2.Q T.good (A12.sl.e fun b hb => hb) n12 (by omega)) ?_
        rintro _ w13 ⟨rfl, ht⟩
        refine ⟨_, rfl, ?_⟩
        obtain ⟨D3, d3, hD3, k13⟩ := d2.ref ht
        replace B13 := B13.kp k13 n13
        replace BI := BI.kp k13 nI2
        have hB13 := (B13.sl (m := 16) (by simp [lidn]) (by omega)).e (D := fun _ => True) fun _ _ => trivial
        rw [← hidn]
        (refine s_mv ?_; refine s_ex ?_; refine s_ex ?_; refine s_as ?_; refine s_as ?_; refine AtR_nil ?_; refine At_region ?_)
        refine s_val (x_slice_arr rfl) ?_
        refine s_val (x_conv_bs rfl hB13) ?_
        (refine s_mv ?_)
        refine s_bool (x_eql_str rfl rfl) (decide_eq_true rfl) ?_
        (refine s_mv ?_; refine s_yes rfl rfl rfl rfl ?_; refine g_mv ?_; refine s_yes rfl rfl rfl rfl ?_; refine g_mv ?_; refine s_yes rfl rfl rfl rfl ?_; refine g_eql ?_; refine s_pt ?_; refine s_as ?_; refine AtR_nil ?_)
        refine At_inBlock ?_
        refine join () _ _ ⟨rfl, rfl, rfl, rfl, rfl, rfl, rfl, trivial⟩ ⟨xs2, D', D3, ⟨by rw [hL2]; exact d3, ?_, ?_⟩, BI⟩
        · rw [hL2]; exact good_if (fun h => good_add T.good (idK_length kn) h) T.good
        · rw [hL2]; exact few_if (fun h => by rw [hkn9] at h ⊢; exact few_add (T.few.mono (Nat.le_succ i)) h) (T.few.mono (Nat.le_succ i))
      by_cases c1 : kd = 1
      · (refine At_block ?_; refine At_seq ?_; refine At_region ?_; refine s_eql ?_; refine s_as ?_; refine AtR_nil ?_; refine At_cond_f rfl ?_; refine At_seq ?_; refine At_region ?_; refine s_eql ?_; refine s_as ?_; refine AtR_nil ?_; refine At_cond_t rfl ?_; refine At_seq ?_; refine At_region ?_; refine s_mv ?_)
        refine s_val (x_load_all rfl BI (by simp [li])) ?_
        refine s_call x_call (remove_calls xs (idK kk) r bo _ T.d.P.R T.good.sorted li) ?_
        rintro _ w9 ⟨rfl, ht⟩
        refine ⟨_, rfl, ?_⟩
        generalize hcd : (if stat (idK kk) (ents xs) = 1 then (0 : Int) else 14) = cd
        generalize hcb : decide (stat (idK kk) (ents xs) = 1 ∧ 0 < (ent (idK kk) (ents xs)).holds) = cb
        obtain ⟨xs2, D', d2, hL2, hD2, k9⟩ := T.d.prog ht
        replace BI := BI.kp k9 nI
        (refine s_mv ?_; refine s_ex ?_; refine s_ex ?_; refine s_as ?_; refine s_as ?_; refine AtR_nil ?_; refine At_seq ?_; refine At_region ?_; refine s_mv ?_; refine s_mv ?_)
        refine s_call x_call (removeR_calls (ents xs) (idK kk) q _ d2.Q T.good) ?_
        rintro _ w10 ⟨rfl, ht2⟩
        refine ⟨_, rfl, ?_⟩
        obtain ⟨D3, d3, hD3, k10⟩ := d2.ref ht2
        replace BI := BI.kp k10 nI2
        rw [hcd, hcb]
        (refine s_mv ?_; refine s_ex ?_; refine s_ex ?_; refine s_as ?_; refine s_as ?_; refine AtR_nil ?_; refine At_region ?_; refine s_mv ?_; refine s_mv ?_)
        refine s_bool (x_eql_bool rfl rfl) (beq_self_eq_true _) ?_
        (refine s_mv ?_; refine s_yes rfl rfl rfl rfl ?_; refine g_mv ?_; refine s_yes rfl rfl rfl rfl ?_; refine g_mv ?_; refine s_yes rfl rfl rfl rfl ?_; refine g_eql ?_; refine s_pt ?_; refine s_as ?_; refine AtR_nil ?_)
        refine At_inBlock ?_
        refine join () _ _ ⟨rfl, rfl, rfl, rfl, rfl, rfl, rfl, trivial⟩ ⟨xs2, D', D3, ⟨by rw [hL2]; exact d3, ?_, ?_⟩, BI⟩
        · rw [hL2]; exact good_if (fun h => good_remove T.good (stat_one.1 h).1) T.good
        · rw [hL2]; exact few_if (fun h => few_remove (T.few.mono (Nat.le_succ i)) (stat_one.1 h).1) (T.few.mono (Nat.le_succ i))
      by_cases c2 : kd = 2
      · (refine At_block ?_; refine At_seq ?_; refine At_region ?_; refine s_eql ?_; refine s_as ?_; refine AtR_nil ?_; refine At_cond_f rfl ?_; refine At_seq ?_; refine At_region ?_; refine s_eql ?_; refine s_as ?_; refine AtR_nil ?_; refine At_cond_f rfl ?_; refine At_seq ?_; refine At_region ?_; refine s_eql ?_; refine s_as ?_; refine AtR_nil ?_; refine At_cond_t rfl ?_; refine At_region ?_; refine s_mv ?_)
        refine s_val (x_load_all rfl BI (by simp [li])) ?_
        refine s_call x_call (hold_calls xs (idK kk) r bo _ T.d.P.R T.good.sorted li hroom) ?_
        rintro _ w9 ⟨rfl, ht⟩
        refine ⟨_, rfl, ?_⟩
        generalize hcd : (if stat (idK kk) (ents xs) = 1 then (0 : Int) else 16) = cd
        obtain ⟨xs2, D', d2, hL2, hD2, k9⟩ := T.d.prog ht
        replace BI := BI.kp k9 nI
        (refine s_mv ?_; refine s_mv ?_)
        refine s_call x_call (holdR_calls (ents xs) (idK kk) q _ d2.Q T.good hroom) ?_
        rintro _ w10 ⟨rfl, R10, k10⟩
        refine ⟨_, rfl, ?_⟩
        rw [hcd]
        have d3 := d2.refH R10 k10
        replace BI := BI.kp k10 nI2
        (refine s_eql ?_; refine s_as ?_; refine AtR_nil ?_)
        refine At_inBlock ?_
        refine join () _ _ ⟨rfl, rfl, rfl, rfl, rfl, rfl, rfl, trivial⟩ ⟨xs2, D', D2, ⟨by rw [hL2]; exact d3, ?_, ?_⟩, BI⟩
        · rw [hL2]; exact good_if (fun h => good_hold T.good (stat_one.1 h).1) T.good
        · rw [hL2]; exact few_if (fun h => few_hold T.few (stat_one.1 h).1) (T.few.mono (Nat.le_succ i))
      by_cases c3 : kd = 3
      · (refine At_block ?_; refine At_seq ?_; refine At_region ?_; refine s_eql ?_; refine s_as ?_; refine AtR_nil ?_; refine At_cond_f rfl ?_; refine At_seq ?_; refine At_region ?_; refine s_eql ?_; refine s_as ?_; refine AtR_nil ?_; refine At_cond_f rfl ?_; refine At_seq ?_; refine At_region ?_; refine s_eql ?_; refine s_as ?_; refine AtR_nil ?_; refine At_cond_f rfl ?_; refine At_seq ?_; refine At_region ?_; refine s_eql ?_; refine s_as ?_; refine AtR_nil ?_; refine At_cond_t rfl ?_; refine At_region ?_; refine s_mv ?_)
        refine s_val (x_load_all rfl BI (by simp [li])) ?_
        refine s_call x_call (release_calls xs (idK kk) r bo _ T.d.P.R T.good.sorted li) ?_
        rintro _ w9 ⟨rfl, ht⟩
        refine ⟨_, rfl, ?_⟩
        generalize hcd : (if hit (idK kk) (ents xs) = true ∧ 0 < (ent (idK kk) (ents xs)).holds then (0 : Int) else 14) = cd
        obtain ⟨xs2, D', d2, hL2, hD2, k9⟩ := T.d.prog ht
        replace BI := BI.kp k9 nI
        (refine s_mv ?_; refine s_mv ?_)
        refine s_call x_call (releaseR_calls (ents xs) (idK kk) q _ d2.Q T.good hroom) ?_
        rintro _ w10 ⟨rfl, ht2⟩
        refine ⟨_, rfl, ?_⟩
        obtain ⟨D3, d3, hD3, k10⟩ := d2.ref ht2
        replace BI := BI.kp k10 nI2
        rw [hcd]
        (refine s_eql ?_; refine s_as ?_; refine AtR_nil ?_)
        refine At_inBlock ?_
        refine join () _ _ ⟨rfl, rfl, rfl, rfl, rfl, rfl, rfl, trivial⟩ ⟨xs2, D', D3, ⟨by rw [hL2]; exact d3, ?_, ?_⟩, BI⟩
        · rw [hL2]; exact good_if (fun h => good_release T.good h.1) T.good
        · rw [hL2]; exact few_if (fun h => few_release (T.few.mono (Nat.le_succ i)) h.1) (T.few.mono (Nat.le_succ i))
      have hT1 : ∀ {w'}, Kp No w8 w' → Twin W w' r bo q xs D D2 (i + 1) := fun k => ⟨T.d.kpn k, T.good, T.few.mono (Nat.le_succ i)⟩
      by_cases c5 : kd = 5
      · (refine At_block ?_; refine At_seq ?_; refine At_region ?_; refine s_eql ?_; refine s_as ?_; refine AtR_nil ?_; refine At_cond_f rfl ?_; refine At_seq ?_; refine At_region ?_; refine s_eql ?_; refine s_as ?_; refine AtR_nil ?_; refine At_cond_f rfl ?_; refine At_seq ?_; refine At_region ?_; refine s_eql ?_; refine s_as ?_; refine AtR_nil ?_; refine At_cond_f rfl ?_; refine At_seq ?_; refine At_region ?_; refine s_eql ?_; refine s_as ?_; refine AtR_nil ?_; refine At_cond_f rfl ?_; refine At_seq ?_; refine At_region ?_; refine s_eql ?_; refine s_as ?_; refine AtR_nil ?_; refine At_cond_f rfl ?_; refine At_seq ?_; refine At_region ?_; refine s_eql ?_; refine s_as ?_; refine AtR_nil ?_; refine At_cond_t rfl ?_; refine At_seq ?_; refine At_region ?_; refine s_mv ?_)
        refine s_call x_call (clear_calls xs r bo _ T.d.P.R) ?_
        rintro _ w9 ⟨rfl, ht⟩
        refine ⟨_, rfl, ?_⟩
        obtain ⟨xs2, D', d2, hL2, hD2, k9⟩ := T.d.prog ht
        replace BI := BI.kp k9 nI
        obtain ⟨aq, cq, BQ, _, _⟩ := d2.Q.es
        (refine AtR_nil ?_; refine At_region ?_; refine s_mv ?_; refine s_nc ?_; refine s_fa ?_)
        refine AtR_go rfl (G_skip (r_store1 (v := .slice none 0 0) rfl rfl BQ (by simp) rfl rfl) fun w10 e10 => ?_)
        have R10 : RefAt w10 q [] D2 := ⟨⟨none, 0, e10.blk, Own.nil _ _ _, fun j hj => by simp [blkOf] at hj⟩, d2.Q.dr, fun j hj => Nat.lt_of_lt_of_le (d2.Q.dlt j hj) (e10.kp (S := fun j => j = q) (.inl rfl)).size⟩
        have k10 : Kp D2 w9 w10 := (e10.kp (S := fun j => j = q) (.inl rfl)).mono (by rintro j rfl; exact d2.Q.dr)
        have d3 := d2.refH R10 k10
        replace BI := BI.kp k10 nI2
        (refine AtR_nil ?_)
        refine At_inBlock ?_
        refine join () _ _ ⟨rfl, rfl, rfl, rfl, rfl, rfl, rfl, trivial⟩ ⟨xs2, D', D2, ⟨by rw [hL2]; exact d3, by rw [hL2]; exact Good.nil, by rw [hL2]; exact fun e he => by cases he⟩, BI⟩
      by_cases c4 : kd = 4
      · (refine At_block ?_; refine At_seq ?_; refine At_region ?_; refine s_eql ?_; refine s_as ?_; refine AtR_nil ?_; refine At_cond_f rfl ?_; refine At_seq ?_; refine At_region ?_; refine s_eql ?_; refine s_as ?_; refine AtR_nil ?_; refine At_cond_f rfl ?_; refine At_seq ?_; refine At_region ?_; refine s_eql ?_; refine s_as ?_; refine AtR_nil ?_; refine At_cond_f rfl ?_; refine At_seq ?_; refine At_region ?_; refine s_eql ?_; refine s_as ?_; refine AtR_nil ?_; refine At_cond_f rfl ?_; refine At_seq ?_; refine At_region ?_; refine s_eql ?_; refine s_as ?_; refine AtR_nil ?_; refine At_cond_t rfl ?_; refine At_seq ?_; refine At_region ?_; refine s_mv ?_)
        refine s_val (x_load_all rfl BI (by simp [li])) ?_
        refine AtR_go rfl (AtG_buildSlice1 (ops := [_]) rfl rfl (by omega) rfl rfl rfl fun b9 w9 hb9 e9 => ?_)
        have B9 : Blk w9 b9 5 (0, 0) (ints .u8 (bs8 [105])) := e9.blk
        have k9 : Kp No w8 w9 := e9.kp (.inr (by omega))
        obtain ⟨n9, n9'⟩ := T.d.not (b := b9) (by omega)
        have h9W : W.heap.size ≤ b9 := by omega
        have hA9 : bA ≠ b9 := fun e => by have := BA.lt; omega
        have hI9 : bI ≠ b9 := fun e => by have := BI.lt; omega
        have hK9 : ¬ blkOf ak b9 := fun h => by have := AK.lt _ h; omega
        clear e9
        replace T := T.kpn k9
        replace BA := BA.kp k9 fun h => h
        replace BI := BI.kp k9 fun h => h
        replace AK := AK.kp k9 fun _ _ h => h
        refine AtR_go rfl (G_val (r_conv_same rfl B9) ?_)
        rintro _ w10 ⟨rfl, ⟨fz10, B10⟩, k10⟩
        replace T : Twin W w10 r bo q xs D D2 i := ⟨T.d.own k10 B9 n9 n9' h9W (by decide) (by decide), T.good, T.few⟩
        replace BA := BA.kp k10 hA9
        replace BI := BI.kp k10 hI9
        replace AK := AK.kp k10 fun j hj e => hK9 (e ▸ hj)
        clear k10 k9 B9 hT1
        (refine s_fa ?_; refine s_ld ?_)
        refine s_call x_call (ringDerive_calls xs (idK kk) r bo 2 [105] m (some ⟨b9, 0, none⟩) 1 1 _ (D' := fun _ => True) T.d.P.R T.good.sorted li T.good.keys ((B10.sl (m := 1) (by simp) (by omega)).e fun _ _ => trivial) (by omega)) ?_
        rintro e w11 ⟨k11, hp⟩
        replace T := T.kpn k11
        replace BA := BA.kp k11 fun h => h
        replace BI := BI.kp k11 fun h => h
        replace AK := AK.kp k11 fun _ _ h => h
        have hT1 : Twin W w11 r bo q xs D D2 (i + 1) := ⟨T.d, T.good, T.few.mono (Nat.le_succ i)⟩
        by_cases hst : stat (idK kk) (ents xs) = 1
        · have hkey : (ent (idK kk) (ents xs)).key = kk := by
            have := T.few
            rw [hkk] at hst ⊢
            exact few_key this hst
          rw [if_pos hst, hkey] at hp
          by_cases hm1 : 0 ≤ m ∧ m ≤ 16320
          · obtain ⟨mm, rfl⟩ : ∃ mm : Nat, m = (mm : Int) := ⟨m.toNat, by omega⟩
            rw [if_pos hm1] at hp
            obtain ⟨ax, cx, rfl, AX, _⟩ := hp
            rw [Int.toNat_natCast] at AX
            refine ⟨_, rfl, ?_⟩
            rw [Int.toNat_natCast]
            (refine s_mv ?_; refine s_ex ?_; refine s_ex ?_; refine s_as ?_; refine s_as ?_; refine AtR_nil ?_; refine At_block ?_; refine At_seq ?_; refine At_region ?_; refine s_mv ?_; refine s_mv ?_)
            refine s_call x_call (statusR_calls (ents xs) (idK kk) q _ T.d.Q T.good) ?_
            rintro _ _ ⟨rfl, rfl⟩
            refine ⟨_, rfl, ?_⟩
            rw [hst]
            by_cases h300 : mm ≤ 300
            · have kd := Kp.drew (S := No) (w := w11)
              let S : World → Prop := fun w' => Twin W w' r bo q xs D D2 (i + 1) ∧ Blk w' bA 85 (0, 0) [.int .i64 4, .int .i64 (mm : Int), .int .u8 (ub u)] ∧ Blk w' bI 22 (0, 0) (ints .u8 (bs8 (idK kk))) ∧ Own w' 5 1 ax mm cx (ints .u8 (bs8 (derive kk 2 [105] mm))) ∧ Own w' 5 1 ak 32 ck (ints .u8 (bs8 kk))
              rw [c4] at BA
              have hSk : ∀ {w w'}, S w → Kp No w w' → S w' := fun h k => ⟨h.1.kpn k, h.2.1.kp k fun h => h, h.2.2.1.kp k fun h => h, h.2.2.2.1.kp k fun _ _ h => h, h.2.2.2.2.kp k fun _ _ h => h⟩
              have hS : S w11.drew := hSk (w := w11) ⟨hT1, BA, BI, AX, AK⟩ kd
              clear hT1
              (refine s_neq ?_; refine s_as ?_; refine AtR_nil ?_; refine At_cond_f rfl ?_; refine At_seq ?_; refine At_region ?_; refine s_fa ?_; refine s_ld ?_; refine s_lss ?_; refine s_mv ?_; refine s_yes rfl rfl rfl rfl ?_; refine g_fa ?_; refine s_yes rfl rfl rfl rfl ?_; refine g_ld ?_; refine s_yes rfl rfl rfl rfl ?_; refine g_gtr ?_; refine s_pf ?_; refine s_as ?_; refine AtR_nil ?_; refine At_cond_f rfl ?_; refine At_seq ?_; refine At_region ?_; refine s_fa ?_; refine s_ld ?_; refine s_leq ?_; refine s_as ?_; refine AtR_nil ?_; refine At_cond_t rfl ?_)
              refine At_draw S rfl ?_
              (apply AtH_take 0 rfl (by decide +kernel) (by exact rfl); (focus (intro wx hx; skip; exact x_move (by conv => lhs; whnf))); (focus (exact hS)))
              (apply AtH_bool 1 rfl (by decide +kernel) (by exact rfl); (focus (intro wx hx; skip; exact x_eql rfl rfl)); (focus (exact decide_eq_true (by omega))); (focus (exact hS)))
              (apply AtH_take 2 rfl (by decide +kernel) (by exact rfl); (focus (intro wx hx; skip; exact x_move (by conv => lhs; whnf))); (focus (exact hS)))
              (apply AtH_take 3 rfl (by decide +kernel) (by exact ⟨_, _, rfl, by decide, rfl, rfl⟩); (focus (intro wx hx; skip; exact x_move (by conv => lhs; whnf))); (focus (exact hS)))
              (apply AtH_take 5 rfl (by decide +kernel) (by exact ⟨_, _, rfl, by decide, rfl, rfl⟩); (focus (intro wx hx; skip; exact x_move (by conv => lhs; whnf))); (focus (exact hS)))
              (apply AtH_take 8 rfl (by decide +kernel) (by exact ⟨_, _, rfl, by decide, rfl, rfl⟩); (focus (intro wx hx; skip; exact x_fieldAddrN rfl (by first | exact Nat.zero_add _ | exact Nat.add_zero _ | (simp only [Nat.reduceAdd] <;> rfl) | exact rfl))); (focus (exact hS)))
              -- ready now: 4 convert 31 9 t180, 6 buildSlice 31 1 [(Prod.mk 0 105:u8)], 9 load 3 t185
              refine AtH_take 4 rfl (by decide +kernel) (by exact ⟨_, _, rfl, by decide, rfl, rfl⟩) (fun wx hx => x_conv_bs rfl (hx.2.2.2.1.sl.e (D := fun _ => True) fun _ _ => trivial)) hS ?_
              refine AtH_take 9 rfl (by decide +kernel) (by exact ⟨_, _, rfl, by decide, rfl, rfl⟩) (fun wx hx => x_load1 rfl hx.2.1 rfl) hS ?_
              refine H_val 6 rfl (by decide +kernel) (by exact ⟨_, _, rfl, by decide, rfl, rfl⟩) (r_buildSlice1 (os := [_]) rfl rfl (by omega) rfl rfl rfl) ?_
              rintro _ w12 ⟨b12, rfl, hb12, e12⟩
              have B12 : Blk w12 b12 5 (0, 0) (ints .u8 (bs8 [105])) := e12.blk
              have k12 : Kp No w11.drew w12 := e12.kp (.inr (by omega))
              obtain ⟨m12, m12'⟩ := hS.1.d.not (b := b12) (by omega)
              have h12W : W.heap.size ≤ b12 := by have := hS.1.d.P.K.size; omega
              have hA12 : bA ≠ b12 := fun e => by have := hS.2.1.lt; omega
              have hI12 : bI ≠ b12 := fun e => by have := hS.2.2.1.lt; omega
              have hX12 : ¬ blkOf ax b12 := fun h => by have := hS.2.2.2.1.lt _ h; omega
              have hK12 : ¬ blkOf ak b12 := fun h => by have := hS.2.2.2.2.lt _ h; omega
              clear e12
              have hS12 := hSk hS k12
              refine ⟨hS12, ?_⟩
              refine H_val 7 rfl (by decide +kernel) (by exact ⟨_, _, rfl, by decide, rfl, rfl⟩) (r_conv_same rfl B12) ?_
              rintro _ w13 ⟨rfl, ⟨fz13, B13⟩, k13⟩
              have hS13 : S w13 := ⟨⟨hS12.1.d.own k13 B12 m12 m12' h12W (by decide) (by decide), hS12.1.good, hS12.1.few⟩, hS12.2.1.kp k13 hA12, hS12.2.2.1.kp k13 hI12, hS12.2.2.2.1.kp k13 (fun j hj e => hX12 (e ▸ hj)), hS12.2.2.2.2.kp k13 fun j hj e => hK12 (e ▸ hj)⟩
              refine ⟨hS13, ?_⟩
              refine AtH_call 10 rfl (by decide +kernel) (by exact ⟨_, _, rfl, by decide, rfl, rfl⟩) x_call  (derive23_calls kk 2 [105] mm ak 32 ck (some ⟨b12, 0, none⟩) 1 1 _ (D := fun _ => True) (D' := fun _ => True) (hS13.2.2.2.2.sl.e fun _ _ => trivial) ((B13.sl (m := 1) (by simp) (by omega)).e fun _ _ => trivial) (by omega) (by omega) (by omega)) ?_
              rintro _ w14 ⟨rfl, k14⟩
              have hS14 := hSk hS13 k14
              refine ⟨_, rfl, hS14, ?_⟩
              clear hS hS12 hS13
              have hS := hS14
              refine AtH_bool 11 rfl (by decide +kernel) (by exact ⟨_, _, rfl, by decide, rfl, rfl⟩) (fun wx hx => x_eql_str rfl rfl) (decide_eq_true rfl) hS ?_
              (apply AtH_take 12 rfl (by decide +kernel) (by exact rfl); (focus (intro wx hx; skip; exact x_pick_t rfl (by conv => lhs; whnf))); (focus (exact hS)))
              (apply AtH_take 13 rfl (by decide +kernel) (by exact rfl); (focus (intro wx hx; skip; exact x_assign (by conv => lhs; whnf))); (focus (exact hS)))
              refine AtH_done (by decide +kernel) ?_
              skip
              refine At_inBlock ?_
              skip
              refine At_inBlock ?_
              exact join () _ _ ⟨rfl, rfl, rfl, rfl, rfl, rfl, rfl, trivial⟩ ⟨xs, D, D2, hS.1, hS.2.2.1⟩
            · (refine s_neq ?_; refine s_as ?_; refine AtR_nil ?_; refine At_cond_f rfl ?_; refine At_seq ?_; refine At_region ?_; refine s_fa ?_; refine s_ld ?_; refine s_lss ?_; refine s_mv ?_; refine s_yes rfl rfl rfl rfl ?_; refine g_fa ?_; refine s_yes rfl rfl rfl rfl ?_; refine g_ld ?_; refine s_yes rfl rfl rfl rfl ?_; refine g_gtr ?_; refine s_pf ?_; refine s_as ?_; refine AtR_nil ?_; refine At_cond_f rfl ?_; refine At_seq ?_; refine At_region ?_; refine s_fa ?_; refine s_ld ?_; refine s_leq ?_; refine s_as ?_; refine AtR_nil ?_; refine At_cond_f rfl ?_; refine At_skip ?_)
              refine At_inBlock ?_
              skip
              refine At_inBlock ?_
              exact join () _ _ ⟨rfl, rfl, rfl, rfl, rfl, rfl, rfl, trivial⟩ ⟨xs, D, D2, hT1, BI⟩
          · rw [if_neg hm1] at hp
            subst hp
            refine ⟨_, rfl, ?_⟩
            (refine s_mv ?_; refine s_ex ?_; refine s_ex ?_; refine s_as ?_; refine s_as ?_; refine AtR_nil ?_; refine At_block ?_; refine At_seq ?_; refine At_region ?_; refine s_mv ?_; refine s_mv ?_)
            refine s_call x_call (statusR_calls (ents xs) (idK kk) q _ T.d.Q T.good) ?_
            rintro _ _ ⟨rfl, rfl⟩
            refine ⟨_, rfl, ?_⟩
            rw [hst]
            by_cases hm0 : m < 0
            · (refine s_neq ?_; refine s_as ?_; refine AtR_nil ?_; refine At_cond_f rfl ?_; refine At_seq ?_; refine At_region ?_; refine s_fa ?_; refine s_ld ?_; refine s_lss ?_; refine s_mv ?_; refine s_no rfl rfl rfl rfl ?_; refine s_no rfl rfl rfl rfl ?_; refine s_no rfl rfl rfl rfl ?_; refine s_pt ?_; refine s_as ?_; refine AtR_nil ?_; refine At_cond_t rfl ?_; refine At_region ?_; refine s_mv ?_; refine s_eql ?_; refine s_mv ?_; refine s_yes rfl rfl rfl rfl ?_; refine g_mv ?_; refine s_yes rfl rfl rfl rfl ?_; refine g_ln ?_; refine s_yes rfl rfl rfl rfl ?_; refine g_eql ?_; refine s_pt ?_; refine s_as ?_; refine AtR_nil ?_)
              refine At_inBlock ?_
              skip
              refine At_inBlock ?_
              exact join () _ _ ⟨rfl, rfl, rfl, rfl, rfl, rfl, rfl, trivial⟩ ⟨xs, D, D2, hT1, BI⟩
            · have hm2 : 16320 < m := by omega
              (refine s_neq ?_; refine s_as ?_; refine AtR_nil ?_; refine At_cond_f rfl ?_; refine At_seq ?_; refine At_region ?_; refine s_fa ?_; refine s_ld ?_; refine s_lss ?_; refine s_mv ?_; refine s_yes rfl rfl rfl rfl ?_; refine g_fa ?_; refine s_yes rfl rfl rfl rfl ?_; refine g_ld ?_; refine s_yes rfl rfl rfl rfl ?_; refine g_gtr ?_; refine s_pf ?_; refine s_as ?_; refine AtR_nil ?_; refine At_cond_t rfl ?_; refine At_region ?_; refine s_mv ?_; refine s_eql ?_; refine s_mv ?_; refine s_yes rfl rfl rfl rfl ?_; refine g_mv ?_; refine s_yes rfl rfl rfl rfl ?_; refine g_ln ?_; refine s_yes rfl rfl rfl rfl ?_; refine g_eql ?_; refine s_pt ?_; refine s_as ?_; refine AtR_nil ?_)
              refine At_inBlock ?_
              skip
              refine At_inBlock ?_
              exact join () _ _ ⟨rfl, rfl, rfl, rfl, rfl, rfl, rfl, trivial⟩ ⟨xs, D, D2, hT1, BI⟩
        · rw [if_neg hst] at hp
          subst hp
          refine ⟨_, rfl, ?_⟩
          (refine s_mv ?_; refine s_ex ?_; refine s_ex ?_; refine s_as ?_; refine s_as ?_; refine AtR_nil ?_; refine At_block ?_; refine At_seq ?_; refine At_region ?_; refine s_mv ?_; refine s_mv ?_)
          refine s_call x_call (statusR_calls (ents xs) (idK kk) q _ T.d.Q T.good) ?_
          rintro _ _ ⟨rfl, rfl⟩
          refine ⟨_, rfl, ?_⟩
          (refine s_neq ?_; refine s_as ?_; refine AtR_nil ?_; refine At_cond_t rfl ?_; refine At_region ?_; refine s_mv ?_; refine s_eql ?_; refine s_mv ?_; refine s_yes rfl rfl rfl rfl ?_; refine g_mv ?_; refine s_yes rfl rfl rfl rfl ?_; refine g_ln ?_; refine s_yes rfl rfl rfl rfl ?_; refine g_eql ?_; refine s_pt ?_; refine s_as ?_; refine AtR_nil ?_)
          refine At_inBlock ?_
          skip
          refine At_inBlock ?_
          exact join () _ _ ⟨rfl, rfl, rfl, rfl, rfl, rfl, rfl, trivial⟩ ⟨xs, D, D2, hT1, BI⟩
      (refine At_block ?_; refine At_seq ?_; refine At_region ?_; refine s_eql ?_; refine s_as ?_; refine AtR_nil ?_; refine At_cond_f rfl ?_; refine At_seq ?_; refine At_region ?_; refine s_eql ?_; refine s_as ?_; refine AtR_nil ?_; refine At_cond_f rfl ?_; refine At_seq ?_; refine At_region ?_; refine s_eql ?_; refine s_as ?_; refine AtR_nil ?_; refine At_cond_f rfl ?_; refine At_seq ?_; refine At_region ?_; refine s_eql ?_; refine s_as ?_; refine AtR_nil ?_; refine At_cond_f rfl ?_; refine At_seq ?_; refine At_region ?_; refine s_eql ?_; refine s_as ?_; refine AtR_nil ?_; refine At_cond_f rfl ?_; refine At_seq ?_; refine At_region ?_; refine s_eql ?_; refine s_as ?_; refine AtR_nil ?_; refine At_cond_f rfl ?_; refine At_skip ?_)
      refine At_inBlock ?_
      exact join () _ _ ⟨rfl, rfl, rfl, rfl, rfl, rfl, rfl, trivial⟩ ⟨xs, D, D2, hT1 (Kp.refl _ _), BI⟩
  clear again
  (refine At_seq ?_; refine At_seq ?_; refine At_region ?_; refine s_mv ?_; refine s_mv ?_; refine s_ln ?_; refine s_lss ?_; refine AtR_nil ?_; refine At_cond_f rfl ?_; refine At_exit rfl ?_; refine At_seq ?_; refine At_region ?_)
  refine s_call x_call (ringNil_calls _) ?_
  rintro _ _ ⟨rfl, rfl⟩
  refine ⟨_, rfl, ?_⟩
  (refine s_mv ?_; refine s_ex ?_; refine s_ex ?_; refine s_as ?_; refine s_as ?_; refine AtR_nil ?_; refine At_seq ?_; refine At_region ?_; refine s_mv ?_; refine s_eqln ?_; refine s_mv ?_; refine s_yes rfl rfl rfl rfl ?_; refine g_mv ?_; refine s_yes rfl rfl rfl rfl ?_; refine g_eql ?_; refine s_pt ?_; refine s_as ?_; refine AtR_nil ?_)
  refine At_ret1 Tryd.func10 rfl (by conv => lhs; whnf) ?_
  exact ⟨rfl, T.d.P.K.below⟩
end Go.Proofs.YtfngacepjcdlnaaDoor
