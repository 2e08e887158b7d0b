/- The law MtreePointers. -/
import Derived.Test.YtfngacepjcdlnaaDoorMNd
import Derived.Test.YtfngacepjcdlnaaDoorMKb
set_option linter.unusedVariables false
namespace Go.Mt
open Go Go.Kx Go.Proofs.YtfngacepjcdlnaaDoor
theorem unP_mac (l : List UInt8) : (unP l).wf := by
  unfold unP
  split
  · rename_i h
    have h36 : l.length = 36 := by
      unfold unOk at h
      simp only [Bool.and_eq_true, decide_eq_true_eq] at h
      exact h.1
    exact unB_wf h36
  · exact zero_wf
theorem packB_unP {l : List UInt8} (h : unOk l = true) : packB (unP l) = l := by
  have h36 : l.length = 36 := by
    unfold unOk at h
    simp only [Bool.and_eq_true, decide_eq_true_eq] at h
    exact h.1
  unfold unP
  rw [if_pos h]
  exact packB_un h36
theorem getT_zero (key name : List UInt8) (st : St) (d i : Int) : getT key name st Pr.zero d i = (if ¬ (0 ≤ d ∧ d ≤ 5) ∨ i < 0 then 2 else 0, none) := by
  unfold getT
  split
  · rfl
  · split
    · rfl
    · have : getP key name st d.toNat 0 Pr.zero i.toNat = some none := by cases d.toNat <;> (rw [getP]; exact if_pos rfl)
      rw [this]
theorem secT_zero (key name : List UInt8) (st : St) (d : Int) : secT key name st Pr.zero d = (if ¬ (0 ≤ d ∧ d ≤ 5) then 2 else 0, []) := by
  unfold secT
  split
  · rfl
  · have : underP key name st d.toNat 0 Pr.zero = some [] := by cases d.toNat <;> (rw [underP]; exact if_pos rfl)
    rw [this]
end Go.Mt
namespace Go.Proofs.YtfngacepjcdlnaaDoor
open Go Go.Kx Go.Kr Go.Mt
theorem built40_d (d : Int) : Tryd.prog.built 40 [(1, .int .i64 d)] = some (trC Pr.zero d).toArray := by kernel_rfl
set_option maxRecDepth 100000 in
set_option maxHeartbeats 64000000 in
theorem pointers_row (W : World) (hC : ∃ fz, Blk W 1 243 fz (ints .u64 (ws kSha))) (l : List UInt8) (a : Option Addr) (len cap : Nat) (hk : Sl W .u8 a len cap (bs8 l)) (deep i : Int) (hdp : -9223372036854775808 ≤ deep ∧ deep ≤ 9223372036854775807) (hip : -9223372036854775808 ≤ i ∧ i ≤ 9223372036854775807) :
    Calls Tryd.prog 14 #[.slice a len cap, .int .i64 deep, .int .i64 i] W fun e w' => e = .returned (.bool true) ∧ RowKit.Below W.heap.size W w' := by
  have hlk := hk.len_eq
  simp only [bs8_length] at hlk
  subst hlk
  have hCk : ∀ {w'}, Kp No W w' → ∃ fz, Blk w' 1 243 fz (ints .u64 (ws kSha)) := fun k => by obtain ⟨fz, hc⟩ := hC; exact ⟨fz, hc.kp k fun h => h⟩
  have hC1 : 1 < W.heap.size := by obtain ⟨fz, hc⟩ := hC; exact hc.lt
  refine calls_at (n := 174) Tryd.func14 rfl rfl (by simp) ?_
  (refine At_seq ?_; refine At_region ?_; refine s_as ?_; refine AtR_nil ?_; refine At_seq ?_; refine At_seq ?_; refine At_region ?_)
  refine s_call x_call (awake16_calls _ hC) ?_
  rintro _ w1 ⟨rfl, K1⟩
  refine ⟨_, rfl, ?_⟩
  by_cases hs1 : 100 < l.length
  · (refine s_nt ?_; refine s_mv ?_; refine s_yes rfl rfl rfl rfl ?_; refine g_mv ?_; refine s_yes rfl rfl rfl rfl ?_; refine g_ln ?_; refine s_yes rfl rfl rfl rfl ?_; refine g_gtr ?_; refine s_pf ?_; refine AtR_nil ?_; refine At_cond_t rfl ?_; refine At_seq ?_; refine At_region ?_)
    refine s_call x_call (awake16_calls _ (hCk K1)) ?_
    rintro _ w2 ⟨rfl, k2⟩
    refine ⟨_, rfl, ?_⟩
    (refine s_as ?_; refine AtR_nil ?_)
    refine At_ret1 Tryd.func14 rfl (by conv => lhs; whnf) ?_
    exact ⟨rfl, Kp.below (K1.trans k2)⟩
  have hum := (unP_mac l).mac
  have hu33 := prC_length (unP_mac l)
  obtain ⟨u, hu⟩ : ∃ u, u = unP l := ⟨_, rfl⟩
  (refine s_nt ?_; refine s_mv ?_; refine s_yes rfl rfl rfl rfl ?_; refine g_mv ?_; refine s_yes rfl rfl rfl rfl ?_; refine g_ln ?_; refine s_yes rfl rfl rfl rfl ?_; refine g_gtr ?_; refine s_pf ?_; refine AtR_nil ?_; refine At_cond_f rfl ?_; refine At_skip ?_; refine At_seq ?_; refine At_region ?_; refine s_mv ?_)
  refine s_call x_call (unpack_calls l a _ cap _ ((hk.kpn K1).e (D := fun _ => True) fun _ _ => trivial)) ?_
  rintro _ w2 ⟨rfl, k2⟩
  refine ⟨_, rfl, ?_⟩
  rw [← hu] at hum hu33 ⊢
  (refine s_mv ?_; refine s_ex ?_; refine s_ex ?_)
  refine AtR_go rfl (AtG_alloc fun b7 w3 hb7 e3 => ?_)
  refine AtR_go rfl (G_skip (r_store_all (s := 33) (vs := prC u) rfl rfl e3.blk hu33 rfl (prC_one _)) fun w4 e4 => ?_)
  have B7 : Blk w4 b7 38 (0, 0) (prC u) := e4.blk
  have k4 : Kp No w2 w4 := (e3.kp (S := No) (.inr (by omega))).trans' (e4.kp (S := fun j => j = b7) (.inl rfl)) (by rintro j rfl; right; omega)
  have K4 := (K1.trans k2).trans k4
  clear e3 e4
  (refine s_as ?_; refine AtR_nil ?_; refine At_seq ?_; refine At_region ?_; refine s_mv ?_)
  refine s_call x_call (unpackR_calls l a _ cap _ ((hk.kpn K4).e (D := fun _ => True) fun _ _ => trivial)) ?_
  rintro _ w5 ⟨rfl, k5⟩
  refine ⟨_, rfl, ?_⟩
  rw [← hu]
  (refine s_mv ?_; refine s_ex ?_; refine s_ex ?_)
  refine AtR_go rfl (AtG_alloc fun b9 w6 hb9 e6 => ?_)
  refine AtR_go rfl (G_skip (r_store_all (s := 33) (vs := prC u) rfl rfl e6.blk hu33 rfl (prC_one _)) fun w7 e7 => ?_)
  have B9 : Blk w7 b9 38 (0, 0) (prC u) := e7.blk
  have k7 : Kp No w5 w7 := (e6.kp (S := No) (.inr (by omega))).trans' (e7.kp (S := fun j => j = b9) (.inl rfl)) (by rintro j rfl; right; omega)
  have K7 := (K4.trans k5).trans k7
  have B7a := B7.kp (k5.trans k7) fun h => h
  clear e6 e7
  (refine s_as ?_; refine AtR_nil ?_; refine At_seq ?_; refine At_seq ?_)
  refine At_meet (σ := Unit) (fun _ => [(1, .int .i64 deep), (2, .int .i64 i), (72, .bool false)]) (fun _ w' => Kp No W w') ?_ ?_
  rotate_left
  · intro join
    have kd := Kp.drew (S := No) (w := w7)
    have KD := K7.trans kd
    have hmk := prC_mkI hum
    let S : World → Prop := fun w' => Blk w' b7 38 (0, 0) (mkI K38 (prI u)) ∧ Blk w' b9 38 (0, 0) (mkI K38 (prI u)) ∧ Sl w' .u8 a l.length cap (bs8 l)
    have hSk : ∀ {w w'}, S w → Kp No w w' → S w' := fun h k => ⟨h.1.kp k fun h => h, h.2.1.kp k fun h => h, h.2.2.kpn k⟩
    have hS : S w7.drew := hSk (w := w7) ⟨by rw [← hmk]; exact B7a, by rw [← hmk]; exact B9, hk.kpn K7⟩ kd
    have hl33 : (mkI K38 (prI u)).length = 33 := by rw [← hmk]; exact hu33
    have hKl := (prI_length hum).symm
    refine At_draw S rfl ?_
    cases hok : unOk l with
    | true =>
      -- ready now: 0 load 38 t7, 1 load 38 t9
      refine AtH_take 0 rfl (by decide +kernel) (by exact rfl) (fun wx hx => x_load_all rfl hx.1 hl33) hS ?_
      refine AtH_take 1 rfl (by decide +kernel) (by exact rfl) (fun wx hx => x_load_all rfl hx.2.1 hl33) hS ?_
      refine AtH_take 2 rfl (by decide +kernel) (by exact rfl) (fun wx hx => x_neq_flat rfl rfl hKl hKl) hS ?_
      rw [show decide (prI u ≠ prI u) = false from decide_eq_false (by simp)]
      (apply AtH_take 3 rfl (by decide +kernel) (by exact rfl); (focus (intro wx hx; skip; exact x_move (by conv => lhs; whnf))); (focus (exact hS)))
      (apply AtH_take 4 rfl (by decide +kernel) (by exact ⟨_, _, rfl, by decide, rfl, rfl⟩); (focus (intro wx hx; skip; exact x_move (by conv => lhs; whnf))); (focus (exact hS)))
      (apply AtH_take 5 rfl (by decide +kernel) (by exact ⟨_, _, rfl, by decide, rfl, rfl⟩); (focus (intro wx hx; skip; exact x_move (by conv => lhs; whnf))); (focus (exact hS)))
      -- ready now: 6 binOp neq 4 t51 t52 4
      refine AtH_take 6 rfl (by decide +kernel) (by exact ⟨_, _, rfl, by decide, rfl, rfl⟩) (fun wx hx => x_neq_bool rfl rfl) hS ?_
      rw [show (true != true) = false from rfl]
      (apply AtH_take 7 rfl (by decide +kernel) (by exact rfl); (focus (intro wx hx; skip; exact x_pick_f rfl (by conv => lhs; whnf))); (focus (exact hS)))
      (apply AtH_take 8 rfl (by decide +kernel) (by exact rfl); (focus (intro wx hx; skip; exact x_move (by conv => lhs; whnf))); (focus (exact hS)))
      (apply AtH_take 9 rfl (by decide +kernel) (by exact ⟨_, _, rfl, by decide, rfl, rfl⟩); (focus (intro wx hx; skip; exact x_move (by conv => lhs; whnf))); (focus (exact hS)))
      (apply AtH_take 11 rfl (by decide +kernel) (by exact ⟨_, _, rfl, by decide, rfl, rfl⟩); (focus (intro wx hx; skip; exact x_move (by conv => lhs; whnf))); (focus (exact hS)))
      -- ready now: 10 call f62(t56)
      refine AtH_call 10 rfl (by decide +kernel) (by exact ⟨_, _, rfl, by decide, rfl, rfl⟩) x_call  (room_calls deep _ hdp) ?_
      rintro _ _ ⟨rfl, rfl⟩
      refine ⟨_, rfl, hS, ?_⟩
      refine AtH_call 12 rfl (by decide +kernel) (by exact ⟨_, _, rfl, by decide, rfl, rfl⟩) x_call  (roomR_calls deep _ hdp) ?_
      rintro _ _ ⟨rfl, rfl⟩
      refine ⟨_, rfl, hS, ?_⟩
      (apply AtH_bool 13 rfl (by decide +kernel) (by exact ⟨_, _, rfl, by decide, rfl, rfl⟩); (focus (intro wx hx; skip; exact x_neq rfl rfl)); (focus (exact decide_eq_false (by omega))); (focus (exact hS)))
      (apply AtH_take 14 rfl (by decide +kernel) (by exact rfl); (focus (intro wx hx; skip; exact x_pick_f rfl (by conv => lhs; whnf))); (focus (exact hS)))
      (apply AtH_take 15 rfl (by decide +kernel) (by exact rfl); (focus (intro wx hx; skip; exact x_move (by conv => lhs; whnf))); (focus (exact hS)))
      (apply AtH_take 16 rfl (by decide +kernel) (by exact ⟨_, _, rfl, by decide, rfl, rfl⟩); (focus (intro wx hx; skip; exact x_move (by conv => lhs; whnf))); (focus (exact hS)))
      (apply AtH_take 17 rfl (by decide +kernel) (by exact ⟨_, _, rfl, by decide, rfl, rfl⟩); (focus (intro wx hx; skip; exact x_move (by conv => lhs; whnf))); (focus (exact hS)))
      (apply AtH_take 21 rfl (by decide +kernel) (by exact ⟨_, _, rfl, by decide, rfl, rfl⟩); (focus (intro wx hx; skip; exact x_move (by conv => lhs; whnf))); (focus (exact hS)))
      -- ready now: 18 load 38 t7, 22 convert 31 9 t68
      refine AtH_take 18 rfl (by decide +kernel) (by exact ⟨_, _, rfl, by decide, rfl, rfl⟩) (fun wx hx => x_load_all (cs := prC u) rfl (by rw [hmk]; exact hx.1) hu33) hS ?_
      refine AtH_take 22 rfl (by decide +kernel) (by exact ⟨_, _, rfl, by decide, rfl, rfl⟩) (fun wx hx => x_conv_bs rfl (hx.2.2.e (D := fun _ => True) fun _ _ => trivial)) hS ?_
      refine AtH_call 19 rfl (by decide +kernel) (by exact ⟨_, _, rfl, by decide, rfl, rfl⟩) x_call  (pack_calls u _ (by rw [hu]; exact unP_mac l)) ?_
      rintro _ w8 ⟨ap, cp, rfl, hop, hfp, k8⟩
      have hS8 := hSk hS k8
      refine ⟨_, rfl, hS8, ?_⟩
      clear hS
      have hS := hS8
      refine AtH_val 20 rfl (by decide +kernel) (by exact ⟨_, _, rfl, by decide, rfl, rfl⟩) (x_conv_bs rfl (hop.sl.e (D := fun _ => True) fun _ _ => trivial)) hS ?_
      refine AtH_val 23 rfl (by decide +kernel) (by exact ⟨_, _, rfl, by decide, rfl, rfl⟩) (x_neq_str rfl rfl) hS ?_
      rw [show decide (packB u ≠ l) = false from decide_eq_false (by rw [hu, packB_unP hok]; simp)]
      (apply AtH_take 24 rfl (by decide +kernel) (by exact ⟨_, _, rfl, by decide, rfl, rfl⟩); (focus (intro wx hx; skip; exact x_pick_t rfl (by conv => lhs; whnf))); (focus (exact hS)))
      (apply AtH_take 25 rfl (by decide +kernel) (by exact rfl); (focus (intro wx hx; skip; exact x_pick_f rfl (by conv => lhs; whnf))); (focus (exact hS)))
      refine AtH_done (by decide +kernel) ?_
      exact join () _ _ ⟨rfl, rfl, rfl, trivial⟩ (KD.trans k8)
    | false =>
      -- ready now: 0 load 38 t7, 1 load 38 t9
      refine AtH_take 0 rfl (by decide +kernel) (by exact rfl) (fun wx hx => x_load_all rfl hx.1 hl33) hS ?_
      refine AtH_take 1 rfl (by decide +kernel) (by exact rfl) (fun wx hx => x_load_all rfl hx.2.1 hl33) hS ?_
      refine AtH_take 2 rfl (by decide +kernel) (by exact rfl) (fun wx hx => x_neq_flat rfl rfl hKl hKl) hS ?_
      rw [show decide (prI u ≠ prI u) = false from decide_eq_false (by simp)]
      (apply AtH_take 3 rfl (by decide +kernel) (by exact rfl); (focus (intro wx hx; skip; exact x_move (by conv => lhs; whnf))); (focus (exact hS)))
      (apply AtH_take 4 rfl (by decide +kernel) (by exact ⟨_, _, rfl, by decide, rfl, rfl⟩); (focus (intro wx hx; skip; exact x_move (by conv => lhs; whnf))); (focus (exact hS)))
      (apply AtH_take 5 rfl (by decide +kernel) (by exact ⟨_, _, rfl, by decide, rfl, rfl⟩); (focus (intro wx hx; skip; exact x_move (by conv => lhs; whnf))); (focus (exact hS)))
      -- ready now: 6 binOp neq 4 t51 t52 4
      refine AtH_take 6 rfl (by decide +kernel) (by exact ⟨_, _, rfl, by decide, rfl, rfl⟩) (fun wx hx => x_neq_bool rfl rfl) hS ?_
      rw [show (false != false) = false from rfl]
      (apply AtH_take 7 rfl (by decide +kernel) (by exact rfl); (focus (intro wx hx; skip; exact x_pick_f rfl (by conv => lhs; whnf))); (focus (exact hS)))
      (apply AtH_take 8 rfl (by decide +kernel) (by exact rfl); (focus (intro wx hx; skip; exact x_move (by conv => lhs; whnf))); (focus (exact hS)))
      (apply AtH_take 9 rfl (by decide +kernel) (by exact ⟨_, _, rfl, by decide, rfl, rfl⟩); (focus (intro wx hx; skip; exact x_move (by conv => lhs; whnf))); (focus (exact hS)))
      (apply AtH_take 11 rfl (by decide +kernel) (by exact ⟨_, _, rfl, by decide, rfl, rfl⟩); (focus (intro wx hx; skip; exact x_move (by conv => lhs; whnf))); (focus (exact hS)))
      -- ready now: 10 call f62(t56)
      refine AtH_call 10 rfl (by decide +kernel) (by exact ⟨_, _, rfl, by decide, rfl, rfl⟩) x_call  (room_calls deep _ hdp) ?_
      rintro _ _ ⟨rfl, rfl⟩
      refine ⟨_, rfl, hS, ?_⟩
      refine AtH_call 12 rfl (by decide +kernel) (by exact ⟨_, _, rfl, by decide, rfl, rfl⟩) x_call  (roomR_calls deep _ hdp) ?_
      rintro _ _ ⟨rfl, rfl⟩
      refine ⟨_, rfl, hS, ?_⟩
      (apply AtH_bool 13 rfl (by decide +kernel) (by exact ⟨_, _, rfl, by decide, rfl, rfl⟩); (focus (intro wx hx; skip; exact x_neq rfl rfl)); (focus (exact decide_eq_false (by omega))); (focus (exact hS)))
      (apply AtH_take 14 rfl (by decide +kernel) (by exact rfl); (focus (intro wx hx; skip; exact x_pick_f rfl (by conv => lhs; whnf))); (focus (exact hS)))
      (apply AtH_take 15 rfl (by decide +kernel) (by exact rfl); (focus (intro wx hx; skip; exact x_move (by conv => lhs; whnf))); (focus (exact hS)))
      (apply AtH_take 16 rfl (by decide +kernel) (by exact ⟨_, _, rfl, by decide, rfl, rfl⟩); (focus (intro wx hx; skip; exact x_move (by conv => lhs; whnf))); (focus (exact hS)))
      (apply AtH_take 17 rfl (by decide +kernel) (by exact ⟨_, _, rfl, by decide, rfl, rfl⟩); (focus (intro wx hx; skip; exact x_move (by conv => lhs; whnf))); (focus (exact hS)))
      refine AtH_no 18 rfl (by decide +kernel) (by exact ⟨_, _, rfl, by decide, rfl, rfl⟩) hS ?_
      refine AtH_no 19 rfl (by decide +kernel) (by exact ⟨_, _, rfl, by decide, rfl, rfl⟩) hS ?_
      refine AtH_no 20 rfl (by decide +kernel) (by exact ⟨_, _, rfl, by decide, rfl, rfl⟩) hS ?_
      refine AtH_no 21 rfl (by decide +kernel) (by exact ⟨_, _, rfl, by decide, rfl, rfl⟩) hS ?_
      refine AtH_no 22 rfl (by decide +kernel) (by exact ⟨_, _, rfl, by decide, rfl, rfl⟩) hS ?_
      refine AtH_no 23 rfl (by decide +kernel) (by exact ⟨_, _, rfl, by decide, rfl, rfl⟩) hS ?_
      (apply AtH_take 24 rfl (by decide +kernel) (by exact ⟨_, _, rfl, by decide, rfl, rfl⟩); (focus (intro wx hx; skip; exact x_pick_f rfl (by conv => lhs; whnf))); (focus (exact hS)))
      (apply AtH_take 25 rfl (by decide +kernel) (by exact rfl); (focus (intro wx hx; skip; exact x_pick_f rfl (by conv => lhs; whnf))); (focus (exact hS)))
      refine AtH_done (by decide +kernel) ?_
      exact join () _ _ ⟨rfl, rfl, rfl, trivial⟩ KD
  rintro _ w8 junk K8
  (refine At_cond_f rfl ?_; refine At_skip ?_; refine At_seq ?_; refine At_region ?_)
  refine s_val (x_build rfl (built51 9)) ?_
  refine AtR_go rfl (AtG_box rfl fun sp w9 hsp e9 => ?_)
  have SP : Blk w9 sp 51 (0, 0) [.slice none 0 0, .slice none 0 0, .int .i64 ((9 : Nat) : Int)] := e9.blk
  have k9 : Kp No w8 w9 := e9.kp (.inr (by omega))
  have hst9 := st_new SP (by omega)
  clear e9
  have lsp := SP.lt
  have z8 := K8.size
  have z9 := k9.size
  have K9 := K8.trans k9
  have nilS : ∀ {w : World}, SlE w .u8 none ([] : List UInt8).length 0 (bs8 []) (fun _ => True) := fun {w} => ⟨rfl, Nat.le_refl _, by omega, .inl rfl⟩
  (refine s_as ?_; refine AtR_nil ?_; refine At_seq ?_; refine At_region ?_; refine s_mv ?_)
  refine s_call x_call (grove_wood sp [] [] none none 0 0 _ hst9 (hCk K9) (by omega) nilS (fun _ => rfl) nilS (fun _ => rfl) ⟨by simp, by simp⟩) ?_
  rintro _ w10 ⟨g, bo, Dg, rfl, hW10, hDg, k10⟩
  refine ⟨_, rfl, ?_⟩
  (refine s_as ?_; refine AtR_nil ?_; refine At_seq ?_; refine At_region ?_)
  refine s_call x_call (real_calls _) ?_
  rintro _ w11 ⟨bo2, rfl, BO2, _, k11⟩
  refine ⟨_, rfl, ?_⟩
  refine s_call x_call (new_nil_calls _ _ _ _) ?_
  rintro _ _ ⟨rfl, rfl⟩
  refine ⟨_, rfl, ?_⟩
  (refine s_mv ?_; refine s_ex ?_; refine s_ex ?_; refine s_as ?_; refine s_as ?_; refine AtR_nil ?_; refine At_seq ?_; refine At_region ?_; refine s_mv ?_)
  refine s_val (x_makeIface rfl) ?_
  refine s_call x_call (new_nil2_calls sp _ _ _) ?_
  rintro _ _ ⟨rfl, rfl⟩
  refine ⟨_, rfl, ?_⟩
  have hW11 := hW10.kpn k11
  have K11 := (K9.trans k10).trans k11
  (refine s_mv ?_; refine s_ex ?_; refine s_ex ?_; refine s_as ?_; refine s_as ?_; refine AtR_nil ?_; refine At_seq ?_)
  refine At_meet (σ := Unit) (fun _ => [(1, .int .i64 deep), (2, .int .i64 i), (12, .pointer (some ⟨g, 0, none⟩)), (14, .int .i64 1), (16, .int .i64 1), (18, .int .i64 2)]) (fun _ w' => Kp No w11 w') ?_ ?_
  rotate_left
  · intro join
    have kd := Kp.drew (S := No) (w := w11)
    have hS : True := trivial
    refine At_draw (fun _ => True) rfl ?_
    (apply AtH_take 0 rfl (by decide +kernel) (by exact rfl); (focus (intro wx hx; skip; exact x_move (by conv => lhs; whnf))); (focus (exact hS)))
    -- ready now: 1 makeInterface 47 t89, 2 call f18(), 3 makeSlice 31 257:i64 257:i64
    refine AtH_take 1 rfl (by decide +kernel) (by exact rfl) (fun wx hx => x_makeIface rfl) hS ?_
    refine AtH_two 2 3 (by decide +kernel) ?_ ?_
    · refine OpH_call rfl (by exact rfl) x_call (real_calls _) ?_
      rintro _ w12 ⟨bo3, rfl, BO3, _, k12⟩
      refine ⟨_, rfl, trivial, ?_⟩
      refine H_val 3 rfl (by decide +kernel) (by exact rfl) (r_make1 (z := .int .u8 0) rfl rfl (by omega) (by omega) rfl (by omega) (by omega)) ?_
      rintro _ w13 ⟨bm, rfl, hbm, e13⟩
      have k13 : Kp No w12 w13 := e13.kp (.inr (by omega))
      refine ⟨trivial, ?_⟩
      refine AtH_call 4 rfl (by decide +kernel) (by exact rfl) x_call  (new_long_calls sp bo3 _ _ 257 _ _ (by omega) (by omega)) ?_
      rintro _ _ ⟨rfl, rfl⟩
      refine ⟨_, rfl, trivial, ?_⟩
      (apply AtH_take 5 rfl (by decide +kernel) (by exact rfl); (focus (intro wx hx; skip; exact x_move (by conv => lhs; whnf))); (focus (exact hS)))
      (apply AtH_take 6 rfl (by decide +kernel) (by exact rfl); (focus (intro wx hx; skip; exact x_extract rfl rfl)); (focus (exact hS)))
      (apply AtH_take 7 rfl (by decide +kernel) (by exact rfl); (focus (intro wx hx; skip; exact x_extract rfl rfl)); (focus (exact hS)))
      (apply AtH_take 8 rfl (by decide +kernel) (by exact rfl); (focus (intro wx hx; skip; exact x_assign (by conv => lhs; whnf))); (focus (exact hS)))
      (apply AtH_take 9 rfl (by decide +kernel) (by exact rfl); (focus (intro wx hx; skip; exact x_assign (by conv => lhs; whnf))); (focus (exact hS)))
      refine AtH_done (by decide +kernel) ?_
      exact join () _ _ ⟨rfl, rfl, rfl, rfl, rfl, rfl, trivial⟩ ((kd.trans k12).trans k13)
    · refine OpH_val rfl (by exact rfl) (r_make1 (z := .int .u8 0) rfl rfl (by omega) (by omega) rfl (by omega) (by omega)) ?_
      rintro _ w12 ⟨bm, rfl, hbm, e12⟩
      have k12 : Kp No w11.drew w12 := e12.kp (.inr (by omega))
      refine ⟨trivial, ?_⟩
      refine AtH_call 2 rfl (by decide +kernel) (by exact rfl) x_call  (real_calls _) ?_
      rintro _ w13 ⟨bo3, rfl, BO3, _, k13⟩
      refine ⟨_, rfl, trivial, ?_⟩
      refine AtH_call 4 rfl (by decide +kernel) (by exact rfl) x_call  (new_long_calls sp bo3 _ _ 257 _ _ (by omega) (by omega)) ?_
      rintro _ _ ⟨rfl, rfl⟩
      refine ⟨_, rfl, trivial, ?_⟩
      (apply AtH_take 5 rfl (by decide +kernel) (by exact rfl); (focus (intro wx hx; skip; exact x_move (by conv => lhs; whnf))); (focus (exact hS)))
      (apply AtH_take 6 rfl (by decide +kernel) (by exact rfl); (focus (intro wx hx; skip; exact x_extract rfl rfl)); (focus (exact hS)))
      (apply AtH_take 7 rfl (by decide +kernel) (by exact rfl); (focus (intro wx hx; skip; exact x_extract rfl rfl)); (focus (exact hS)))
      (apply AtH_take 8 rfl (by decide +kernel) (by exact rfl); (focus (intro wx hx; skip; exact x_assign (by conv => lhs; whnf))); (focus (exact hS)))
      (apply AtH_take 9 rfl (by decide +kernel) (by exact rfl); (focus (intro wx hx; skip; exact x_assign (by conv => lhs; whnf))); (focus (exact hS)))
      refine AtH_done (by decide +kernel) ?_
      exact join () _ _ ⟨rfl, rfl, rfl, rfl, rfl, rfl, trivial⟩ ((kd.trans k12).trans k13)
  rintro _ w13 junk2 k13
  have hW13 := hW11.kpn k13
  have K13 := K11.trans k13
  have hz34 : (trC Pr.zero deep).length = 34 := trC_length zero_wf deep
  (refine At_seq ?_; refine At_seq ?_; refine At_region ?_; refine s_mv ?_; refine s_eqlp ?_; refine s_mv ?_; refine s_yes rfl rfl rfl rfl ?_; refine g_mv ?_; refine s_yes rfl rfl rfl rfl ?_; refine g_neq ?_; refine s_pf ?_; refine s_mv ?_; refine s_yes rfl rfl rfl rfl ?_; refine g_mv ?_; refine s_yes rfl rfl rfl rfl ?_; refine g_neq ?_; refine s_pf ?_; refine s_mv ?_; refine s_yes rfl rfl rfl rfl ?_; refine g_mv ?_; refine s_yes rfl rfl rfl rfl ?_; refine g_neq ?_; refine s_pf ?_; refine AtR_nil ?_; refine At_cond_f rfl ?_; refine At_skip ?_; refine At_seq ?_; refine At_region ?_; refine s_mv ?_)
  refine s_val (x_build (by first | rfl | exact rfl) (built40_d deep)) ?_
  refine AtR_go rfl (AtG_alloc fun b19 w14 hb19 e14 => ?_)
  refine AtR_go rfl (G_skip (r_store_all (s := 34) (vs := trC Pr.zero deep) rfl rfl e14.blk hz34 rfl (trC_one _ _)) fun w15 e15 => ?_)
  have B19 : Blk w15 b19 40 (0, 0) (trC Pr.zero deep) := e15.blk
  have k15 : Kp No w13 w15 := (e14.kp (S := No) (.inr (by omega))).trans' (e15.kp (S := fun j => j = b19) (.inl rfl)) (by rintro j rfl; right; omega)
  have hW15 := hW13.kpn k15
  have K15 := K13.trans k15
  clear e14 e15
  obtain ⟨bad, hbad⟩ : ∃ bad : Bool, bad = decide (deep < 0 ∨ 5 < deep) := ⟨_, rfl⟩
  refine AtR_nil ?_
  refine At_seq ?_
  refine At_meet (σ := Unit) (fun _ => [(2, .int .i64 i), (12, .pointer (some ⟨g, 0, none⟩)), (19, .pointer (some ⟨b19, 0, none⟩)), (20, .bool bad)]) (fun _ w' => w' = w15) ?_ ?_
  rotate_left
  · intro join
    by_cases h1 : deep < 0
    · rw [show bad = true by rw [hbad]; exact decide_eq_true (.inl h1)] at join
      refine At_region ?_
      refine s_mv ?_
      refine s_lss ?_
      refine s_mv ?_
      refine s_no rfl rfl rfl rfl ?_
      refine s_no rfl rfl rfl rfl ?_
      refine s_pt ?_
      refine s_as ?_
      refine AtR_nil ?_
      exact join () _ _ ⟨rfl, rfl, rfl, rfl, trivial⟩ rfl
    · by_cases h2 : 5 < deep
      · rw [show bad = true by rw [hbad]; exact decide_eq_true (.inr h2)] at join
        refine At_region ?_
        refine s_mv ?_
        refine s_lss ?_
        refine s_mv ?_
        refine s_yes rfl rfl rfl rfl ?_
        refine g_mv ?_
        refine s_yes rfl rfl rfl rfl ?_
        refine g_gtr ?_
        refine s_pf ?_
        refine s_as ?_
        refine AtR_nil ?_
        exact join () _ _ ⟨rfl, rfl, rfl, rfl, trivial⟩ rfl
      · rw [show bad = false by rw [hbad]; exact decide_eq_false (by omega)] at join
        refine At_region ?_
        refine s_mv ?_
        refine s_lss ?_
        refine s_mv ?_
        refine s_yes rfl rfl rfl rfl ?_
        refine g_mv ?_
        refine s_yes rfl rfl rfl rfl ?_
        refine g_gtr ?_
        refine s_pf ?_
        refine s_as ?_
        refine AtR_nil ?_
        exact join () _ _ ⟨rfl, rfl, rfl, rfl, trivial⟩ rfl
  rintro _ w15 junk3 rfl
  have hWk := hW15
  obtain ⟨cx, hcx⟩ : ∃ cx : Nat, cx = if ¬ (0 ≤ deep ∧ deep ≤ 5) ∨ i < 0 then 2 else 0 := ⟨_, rfl⟩
  obtain ⟨cy, hcy⟩ : ∃ cy : Nat, cy = if ¬ (0 ≤ deep ∧ deep ≤ 5) then 2 else 0 := ⟨_, rfl⟩
  (refine At_seq ?_; refine At_region ?_; refine s_mv ?_)
  refine s_val (x_load_all rfl B19 hz34) ?_
  (refine s_mv ?_)
  refine s_call x_call (Get_calls g sp bo _ _ (St.new 9) Pr.zero deep i _ hW15.gr hW15.stt zero_wf hdp hip) ?_
  rw [getT_zero, ← hcx]
  rintro _ w16 ⟨k16, v, rfl, hv⟩
  refine ⟨_, rfl, ?_⟩
  have B19a := B19.kp k16 fun h => h
  have hW16 := hW15.kpn k16
  (refine s_mv ?_; refine s_ex ?_; refine s_ex ?_; refine s_as ?_; refine s_as ?_; refine AtR_nil ?_; refine At_seq ?_; refine At_region ?_; refine s_mv ?_)
  refine s_val (x_load_all rfl B19a hz34) ?_
  refine s_call x_call (Sectors_calls g sp bo _ _ (St.new 9) Pr.zero deep _ hW16.gr hW16.stt zero_wf hdp) ?_
  rw [secT_zero, ← hcy]
  rintro _ w17 ⟨k17, as0, cs0, rfl, _, _⟩
  refine ⟨_, rfl, ?_⟩
  have B19b := B19a.kp k17 fun h => h
  have hW17 := hW16.kpn k17
  have K17 := (K15.trans k16).trans k17
  have hwr : ∀ {wx : World} (ax : Option Addr), Calls Tryd.prog 25 #[.pointer (some ⟨g, 0, none⟩), .agg (trC Pr.zero deep).toArray, .int .i64 i, .slice ax 511 511] wx fun e w' => e = .returned (.tuple #[.agg (trC Pr.zero 0).toArray, .int .i64 2]) ∧ Kp No wx w' := fun {wx} ax => Put_wrong _ Pr.zero deep i ax 511 511 wx zero_wf hip (by omega) (.inr (.inr (.inr (by omega))))
  (refine s_mv ?_; refine s_ex ?_; refine s_ex ?_; refine s_as ?_; refine s_as ?_; refine AtR_nil ?_; refine At_seq ?_)
  refine At_meet (σ := Unit) (fun _ => [(2, .int .i64 i), (12, .pointer (some ⟨g, 0, none⟩)), (19, .pointer (some ⟨b19, 0, none⟩)), (20, .bool bad), (22, .int .i64 (cx : Int)), (24, .int .i64 (cy : Int)), (26, .int .i64 2)]) (fun _ w' => Kp No w17 w') ?_ ?_
  rotate_left
  · intro join
    have kd := Kp.drew (S := No) (w := w17)
    let S : World → Prop := fun w' => Blk w' b19 40 (0, 0) (trC Pr.zero deep)
    have hSk : ∀ {w w'}, S w → Kp No w w' → S w' := fun h k => Blk.kp h k fun h => h
    have hS : S w17.drew := hSk (w := w17) B19b kd
    have l19 := (B19b.kp kd fun h => h).lt
    have fin : ∀ {wa wb : World} {b25 : Nat}, Kp No w17.drew wa → w17.drew.heap.size ≤ b25 → Eff wa wb b25 (.cells (trC Pr.zero 0).toArray 40 (0, 0)) → Kp No w17 wb := fun {wa wb b25} k hb e => (kd.trans k).trans' (e.kp (S := fun j => j = b25) (.inl rfl)) (by rintro j rfl; right; exact hb)
    refine At_draw S rfl ?_
    (apply AtH_take 0 rfl (by decide +kernel) (by exact rfl); (focus (intro wx hx; skip; exact x_move (by conv => lhs; whnf))); (focus (exact hS)))
    (apply AtH_take 2 rfl (by decide +kernel) (by exact rfl); (focus (intro wx hx; skip; exact x_move (by conv => lhs; whnf))); (focus (exact hS)))
    -- ready now: 1 load 40 t19, 3 makeSlice 31 511:i64 511:i64, 8 alloc 40
    refine AtH_take 1 rfl (by decide +kernel) (by exact rfl) (fun wx hx => x_load_all rfl hx hz34) hS ?_
    refine AtH_two 3 8 (by decide +kernel) ?_ ?_
    · refine OpH_val rfl (by exact rfl) (r_make1 (z := .int .u8 0) rfl rfl (by omega) (by omega) rfl (by omega) (by omega)) ?_
      rintro _ w18 ⟨bm, rfl, hbm, e18⟩
      have k18 : Kp No w17.drew w18 := e18.kp (.inr (by omega))
      have z18 := k18.size
      refine ⟨hSk hS k18, ?_⟩
      refine AtH_two 4 8 (by decide +kernel) ?_ ?_
      · refine OpH_call rfl (by exact rfl) x_call (hwr _) ?_
        rintro _ w19 ⟨rfl, k19⟩
        have z19 := k19.size
        replace hS := hSk hS (k18.trans k19)
        refine ⟨_, rfl, hS, ?_⟩
        (apply AtH_take 5 rfl (by decide +kernel) (by exact rfl); (focus (intro wx hx; skip; exact x_move (by conv => lhs; whnf))); (focus (exact hS)))
        (apply AtH_take 6 rfl (by decide +kernel) (by exact rfl); (focus (intro wx hx; skip; exact x_extract rfl rfl)); (focus (exact hS)))
        (apply AtH_take 7 rfl (by decide +kernel) (by exact rfl); (focus (intro wx hx; skip; exact x_extract rfl rfl)); (focus (exact hS)))
        -- ready now: 8 alloc 40
        refine H_val 8 rfl (by decide +kernel) (by exact rfl) r_alloc ?_
        rintro _ w20 ⟨b25, rfl, hb25, e20⟩
        have k20 : Kp No w19 w20 := e20.kp (.inr (by omega))
        replace hS := hSk hS k20
        refine ⟨hS, ?_⟩
        -- ready now: 9 store 40 t25 t137
        refine H_skip 9 rfl (by decide +kernel) (by exact rfl) (r_store_all (s := 34) (vs := trC Pr.zero 0) rfl rfl e20.blk rfl rfl rfl) ?_
        intro w21 e21
        replace hS : S w21 := Blk.kp hS (e21.kp (S := fun j => j = b25) (.inl rfl)) (by omega)
        refine ⟨hS, ?_⟩
        (apply AtH_take 10 rfl (by decide +kernel) (by exact rfl); (focus (intro wx hx; skip; exact x_assign (by conv => lhs; whnf))); (focus (exact hS)))
        refine AtH_done (by decide +kernel) ?_
        exact join () _ _ ⟨rfl, rfl, rfl, rfl, rfl, rfl, rfl, trivial⟩ (fin ((k18.trans k19).trans k20) (by omega) e21)
      · refine OpH_val rfl (by exact rfl) r_alloc ?_
        rintro _ w19 ⟨b25, rfl, hb25, e19⟩
        have B25 : Blk w19 b25 40 (0, 0) z40 := e19.blk
        have k19 : Kp No w18 w19 := e19.kp (.inr (by omega))
        replace hS := hSk hS (k18.trans k19)
        refine ⟨hS, ?_⟩
        refine AtH_call 4 rfl (by decide +kernel) (by exact rfl) x_call  (hwr _) ?_
        rintro _ w20 ⟨rfl, k20⟩
        replace hS := hSk hS k20
        refine ⟨_, rfl, hS, ?_⟩
        (apply AtH_take 5 rfl (by decide +kernel) (by exact rfl); (focus (intro wx hx; skip; exact x_move (by conv => lhs; whnf))); (focus (exact hS)))
        (apply AtH_take 6 rfl (by decide +kernel) (by exact rfl); (focus (intro wx hx; skip; exact x_extract rfl rfl)); (focus (exact hS)))
        (apply AtH_take 7 rfl (by decide +kernel) (by exact rfl); (focus (intro wx hx; skip; exact x_extract rfl rfl)); (focus (exact hS)))
        -- ready now: 9 store 40 t25 t137
        refine H_skip 9 rfl (by decide +kernel) (by exact rfl) (r_store_all (s := 34) (vs := trC Pr.zero 0) rfl rfl (B25.kp k20 fun h => h) rfl rfl rfl) ?_
        intro w21 e21
        replace hS : S w21 := Blk.kp hS (e21.kp (S := fun j => j = b25) (.inl rfl)) (by omega)
        refine ⟨hS, ?_⟩
        (apply AtH_take 10 rfl (by decide +kernel) (by exact rfl); (focus (intro wx hx; skip; exact x_assign (by conv => lhs; whnf))); (focus (exact hS)))
        refine AtH_done (by decide +kernel) ?_
        exact join () _ _ ⟨rfl, rfl, rfl, rfl, rfl, rfl, rfl, trivial⟩ (fin ((k18.trans k19).trans k20) (by omega) e21)
    · refine OpH_val rfl (by exact rfl) r_alloc ?_
      rintro _ w18 ⟨b25, rfl, hb25, e18⟩
      have B25 : Blk w18 b25 40 (0, 0) z40 := e18.blk
      have k18 : Kp No w17.drew w18 := e18.kp (.inr (by omega))
      refine ⟨hSk hS k18, ?_⟩
      refine H_val 3 rfl (by decide +kernel) (by exact rfl) (r_make1 (z := .int .u8 0) rfl rfl (by omega) (by omega) rfl (by omega) (by omega)) ?_
      rintro _ w19 ⟨bm, rfl, hbm, e19⟩
      have k19 : Kp No w18 w19 := e19.kp (.inr (by omega))
      replace hS := hSk hS (k18.trans k19)
      refine ⟨hS, ?_⟩
      refine AtH_call 4 rfl (by decide +kernel) (by exact rfl) x_call  (hwr _) ?_
      rintro _ w20 ⟨rfl, k20⟩
      replace hS := hSk hS k20
      refine ⟨_, rfl, hS, ?_⟩
      (apply AtH_take 5 rfl (by decide +kernel) (by exact rfl); (focus (intro wx hx; skip; exact x_move (by conv => lhs; whnf))); (focus (exact hS)))
      (apply AtH_take 6 rfl (by decide +kernel) (by exact rfl); (focus (intro wx hx; skip; exact x_extract rfl rfl)); (focus (exact hS)))
      (apply AtH_take 7 rfl (by decide +kernel) (by exact rfl); (focus (intro wx hx; skip; exact x_extract rfl rfl)); (focus (exact hS)))
      -- ready now: 9 store 40 t25 t137
      refine H_skip 9 rfl (by decide +kernel) (by exact rfl) (r_store_all (s := 34) (vs := trC Pr.zero 0) rfl rfl (B25.kp (k19.trans k20) fun h => h) rfl rfl rfl) ?_
      intro w21 e21
      replace hS : S w21 := Blk.kp hS (e21.kp (S := fun j => j = b25) (.inl rfl)) (by omega)
      refine ⟨hS, ?_⟩
      (apply AtH_take 10 rfl (by decide +kernel) (by exact rfl); (focus (intro wx hx; skip; exact x_assign (by conv => lhs; whnf))); (focus (exact hS)))
      refine AtH_done (by decide +kernel) ?_
      exact join () _ _ ⟨rfl, rfl, rfl, rfl, rfl, rfl, rfl, trivial⟩ (fin ((k18.trans k19).trans k20) (by omega) e21)
  rintro _ w18 junk4 k18
  have B19c := B19b.kp k18 fun h => h
  have hW18 := hW17.kpn k18
  have K18 := K17.trans k18
  have z18 := K18.size
  obtain ⟨cw, hcw⟩ : ∃ cw : Nat, cw = if ¬ (0 ≤ deep ∧ deep ≤ 5) ∨ i < 0 then 2 else 0 := ⟨_, rfl⟩
  have hcut : ∃ q : List Value, q.length = 34 ∧ q.all (·.oneCell') = true ∧ Calls Tryd.prog 56 #[.pointer (some ⟨g, 0, none⟩), .agg (trC Pr.zero deep).toArray, .int .i64 i] w18 fun e w' => e = .returned (.tuple #[.agg q.toArray, .int .i64 (cw : Int)]) ∧ Kp No W w' := by
    by_cases h : ¬ (0 ≤ deep ∧ deep ≤ 5) ∨ i < 0
    · refine ⟨trC Pr.zero 0, rfl, rfl, (Cut_wrong _ Pr.zero deep i w18 zero_wf h).mono ?_⟩
      rintro e w' ⟨rfl, k⟩
      rw [hcw, if_pos h]
      exact ⟨rfl, K18.trans k⟩
    · obtain ⟨m, rfl⟩ : ∃ m : Nat, deep = (m : Int) := ⟨deep.toNat, by omega⟩
      obtain ⟨t, rfl⟩ : ∃ t : Nat, i = (t : Int) := ⟨i.toNat, by omega⟩
      refine ⟨trC Pr.zero (m : Int), hz34, trC_one _ _, (Cut_zero g sp bo _ _ (St.new 9) Pr.zero m t w18 hW18 zero_wf rfl (by omega) (by omega)).mono ?_⟩
      rintro e w' ⟨rfl, _, k⟩
      rw [hcw, if_neg h]
      exact ⟨rfl, K18.trans' k (by rintro j rfl; right; omega)⟩
  obtain ⟨q, hq34, hq1, hcut⟩ := hcut
  (refine At_seq ?_; refine At_region ?_; refine s_mv ?_)
  refine s_val (x_load_all rfl B19c hz34) ?_
  (refine s_mv ?_)
  refine s_call x_call hcut ?_
  rintro _ w19 ⟨rfl, K19⟩
  refine ⟨_, rfl, ?_⟩
  have z19 := K19.size
  (refine s_mv ?_; refine s_ex ?_; refine s_ex ?_)
  refine AtR_go rfl (AtG_alloc fun b27 w20 hb27 e20 => ?_)
  refine AtR_go rfl (G_skip (r_store_all (s := 34) (vs := q) rfl rfl e20.blk hq34 rfl hq1) fun w21 e21 => ?_)
  have k21 : Kp No w19 w21 := (e20.kp (S := No) (.inr (by omega))).trans' (e21.kp (S := fun j => j = b27) (.inl rfl)) (by rintro j rfl; right; omega)
  have K21 := K19.trans k21
  clear e20 e21
  (refine s_as ?_; refine AtR_nil ?_; refine At_seq ?_; refine At_region ?_; refine s_mv ?_)
  by_cases hg : 0 ≤ deep ∧ deep ≤ 5
  rotate_left
  · obtain rfl : cx = 2 := by rw [hcx, if_pos (.inl hg)]
    obtain rfl : cy = 2 := by rw [hcy, if_pos hg]
    obtain rfl : cw = 2 := by rw [hcw, if_pos (.inl hg)]
    obtain rfl : bad = true := by rw [hbad]; exact decide_eq_true (by omega)
    (refine s_eql ?_; refine s_mv ?_; refine s_mv ?_; refine s_no rfl rfl rfl rfl ?_; refine s_no rfl rfl rfl rfl ?_; refine s_pt ?_)
    refine s_val (x_eql_bool rfl rfl) ?_
    (refine s_mv ?_; refine s_yes rfl rfl rfl rfl ?_; refine g_mv ?_; refine s_yes rfl rfl rfl rfl ?_; refine g_eql ?_; refine s_yes rfl rfl rfl rfl ?_; refine g_mv ?_)
    refine s_yes rfl rfl rfl rfl (g_val (x_eql_bool rfl rfl) ?_)
    (refine s_pt ?_; refine s_mv ?_; refine s_yes rfl rfl rfl rfl ?_; refine g_mv ?_; refine s_yes rfl rfl rfl rfl ?_; refine g_eql ?_; refine s_pt ?_; refine s_mv ?_; refine s_yes rfl rfl rfl rfl ?_; refine g_mv ?_; refine s_yes rfl rfl rfl rfl ?_; refine g_eql ?_; refine s_yes rfl rfl rfl rfl ?_; refine g_mv ?_; refine s_yes rfl rfl rfl rfl ?_; refine g_mv ?_; refine s_no rfl rfl rfl rfl ?_; refine s_no rfl rfl rfl rfl ?_; refine s_yes rfl rfl rfl rfl ?_; refine g_pt ?_)
    refine s_yes rfl rfl rfl rfl (g_val (x_eql_bool rfl rfl) ?_)
    (refine s_pt ?_; refine s_as ?_; refine AtR_nil ?_)
    refine At_ret1 Tryd.func14 rfl (by conv => lhs; whnf) ?_
    exact ⟨rfl, Kp.below K21⟩
  obtain rfl : cy = 0 := by rw [hcy, if_neg (by omega)]
  obtain rfl : bad = false := by rw [hbad]; exact decide_eq_false (by omega)
  by_cases hi0 : i < 0
  · obtain rfl : cx = 2 := by rw [hcx, if_pos (.inr hi0)]
    obtain rfl : cw = 2 := by rw [hcw, if_pos (.inr hi0)]
    (refine s_eql ?_; refine s_mv ?_; refine s_mv ?_; refine s_yes rfl rfl rfl rfl ?_; refine g_mv ?_; refine s_yes rfl rfl rfl rfl ?_; refine g_lss ?_; refine s_pf ?_)
    refine s_val (x_eql_bool rfl rfl) ?_
    (refine s_mv ?_; refine s_yes rfl rfl rfl rfl ?_; refine g_mv ?_; refine s_yes rfl rfl rfl rfl ?_; refine g_eql ?_; refine s_yes rfl rfl rfl rfl ?_; refine g_mv ?_)
    refine s_yes rfl rfl rfl rfl (g_val (x_eql_bool rfl rfl) ?_)
    (refine s_pt ?_; refine s_mv ?_; refine s_yes rfl rfl rfl rfl ?_; refine g_mv ?_; refine s_yes rfl rfl rfl rfl ?_; refine g_eql ?_; refine s_pt ?_; refine s_mv ?_; refine s_yes rfl rfl rfl rfl ?_; refine g_mv ?_; refine s_yes rfl rfl rfl rfl ?_; refine g_eql ?_; refine s_yes rfl rfl rfl rfl ?_; refine g_mv ?_; refine s_yes rfl rfl rfl rfl ?_; refine g_mv ?_; refine s_yes rfl rfl rfl rfl ?_; refine g_mv ?_; refine s_yes rfl rfl rfl rfl ?_; refine g_lss ?_; refine s_yes rfl rfl rfl rfl ?_; refine g_pf ?_)
    refine s_yes rfl rfl rfl rfl (g_val (x_eql_bool rfl rfl) ?_)
    (refine s_pt ?_; refine s_as ?_; refine AtR_nil ?_)
    refine At_ret1 Tryd.func14 rfl (by conv => lhs; whnf) ?_
    exact ⟨rfl, Kp.below K21⟩
  · obtain rfl : cx = 0 := by rw [hcx, if_neg (by omega)]
    obtain rfl : cw = 0 := by rw [hcw, if_neg (by omega)]
    (refine s_eql ?_; refine s_mv ?_; refine s_mv ?_; refine s_yes rfl rfl rfl rfl ?_; refine g_mv ?_; refine s_yes rfl rfl rfl rfl ?_; refine g_lss ?_; refine s_pf ?_)
    refine s_val (x_eql_bool rfl rfl) ?_
    (refine s_mv ?_; refine s_yes rfl rfl rfl rfl ?_; refine g_mv ?_; refine s_yes rfl rfl rfl rfl ?_; refine g_eql ?_; refine s_yes rfl rfl rfl rfl ?_; refine g_mv ?_)
    refine s_yes rfl rfl rfl rfl (g_val (x_eql_bool rfl rfl) ?_)
    (refine s_pt ?_; refine s_mv ?_; refine s_yes rfl rfl rfl rfl ?_; refine g_mv ?_; refine s_yes rfl rfl rfl rfl ?_; refine g_eql ?_; refine s_pt ?_; refine s_mv ?_; refine s_yes rfl rfl rfl rfl ?_; refine g_mv ?_; refine s_yes rfl rfl rfl rfl ?_; refine g_eql ?_; refine s_yes rfl rfl rfl rfl ?_; refine g_mv ?_; refine s_yes rfl rfl rfl rfl ?_; refine g_mv ?_; refine s_yes rfl rfl rfl rfl ?_; refine g_mv ?_; refine s_yes rfl rfl rfl rfl ?_; refine g_lss ?_; refine s_yes rfl rfl rfl rfl ?_; refine g_pf ?_)
    refine s_yes rfl rfl rfl rfl (g_val (x_eql_bool rfl rfl) ?_)
    (refine s_pt ?_; refine s_as ?_; refine AtR_nil ?_)
    refine At_ret1 Tryd.func14 rfl (by conv => lhs; whnf) ?_
    exact ⟨rfl, Kp.below K21⟩
theorem pointers_in (W : World) (hC : ∃ fz, Blk W 1 243 fz (ints .u64 (ws kSha))) (a : Option Addr) (len cap : Nat) (z : List Int) (hk : Sl W .u8 a len cap z) (hz : ∀ x ∈ z, (Lit.int .u8 x).wf = true) (deep : Int) (hd : (Lit.int .i64 deep).wf = true) (i : Int) (hi : (Lit.int .i64 i).wf = true) :
    Calls Tryd.prog 14 #[.slice a len cap, .int .i64 deep, .int .i64 i] W fun e w' => e = .returned (.bool true) ∧ RowKit.Below W.heap.size W w' := by
  obtain ⟨l, rfl⟩ : ∃ l : List UInt8, z = bs8 l := by
    refine ⟨z.map fun x => UInt8.ofNat x.toNat, ?_⟩
    apply List.ext_getElem (by simp)
    intro i h1 h2
    have hb := wf_bounds (hz _ (List.getElem_mem h1))
    have m1 : IntKind.u8.min = 0 := rfl
    have m2 : IntKind.u8.max = 255 := rfl
    rw [m1, m2] at hb
    simp only [bs8, List.map_map, List.getElem_map, Function.comp, ub]
    rw [UInt8.toNat_ofNat']
    omega
  have h1 := wf_bounds hd
  have h2 := wf_bounds hi
  rw [show IntKind.i64.min = -9223372036854775808 from rfl, show IntKind.i64.max = 9223372036854775807 from rfl] at h1 h2
  exact pointers_row W hC l a len cap hk deep i h1 h2
end Go.Proofs.YtfngacepjcdlnaaDoor
