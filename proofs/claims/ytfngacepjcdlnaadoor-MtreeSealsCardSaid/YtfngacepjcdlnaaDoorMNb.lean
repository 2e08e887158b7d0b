/- The law MtreeSeals. | What comes in, as octets; the law MtreeSeals, of what comes in. -/
import Derived.Test.YtfngacepjcdlnaaDoorMNa
import Derived.Test.YtfngacepjcdlnaaDoorMKb
set_option linter.unusedVariables false
namespace Go.Mt
open Go Go.Kx Go.Proofs.YtfngacepjcdlnaaDoor
/-- A store's sectors, read. -/
theorem StAt.sec {w : World} {sp : Nat} {st : St} {D : Nat → Prop} (h : StAt w sp st D) (h0 : 0 < st.b.length) : ∃ ab cb ai ci, Blk w sp 51 (0, 0) [.slice (some ⟨ab, 0, none⟩) st.b.length cb, .slice ai st.b.length ci, .int .i64 (st.room : Int)] ∧ Seg w ab 0 (st.b.map strV) ∧ ab < w.heap.size := by
  obtain ⟨ab, cb, ai, ci, hB, hOb, hOi, _, _⟩ := h.es
  obtain ⟨b, sp', rfl, hBl, _, hseg⟩ := own_in hOb h0
  exact ⟨b, cb, ai, ci, hB, hseg, hBl.lt⟩
end Go.Mt
namespace Go.Proofs.YtfngacepjcdlnaaDoor
open Go Go.Kx Go.Kr Go.Mt
set_option maxRecDepth 100000 in
set_option maxHeartbeats 32000000 in
theorem seals_row (W : World) (hC : ∃ fz, Blk W 1 243 fz (ints .u64 (ws kSha))) (key : List UInt8) (ak : Option Addr) (len cap : Nat) (hk : Sl W .u8 ak len cap (bs8 key)) (name : List UInt8) (an : Option Addr) (len2 cap2 : Nat) (hn : Sl W .u8 an len2 cap2 (bs8 name)) (c : UInt8) :
    Calls Tryd.prog 4 #[.slice ak len cap, .slice an len2 cap2, .int .u8 (ub c)] W fun e w' => e = .returned (.bool true) ∧ RowKit.Below W.heap.size W w' := by
  have hlk := hk.len_eq
  have hln := hn.len_eq
  simp only [bs8_length] at hlk hln
  subst hlk
  subst hln
  have none0 : ∀ {w : World} {a : Option Addr} {l : List UInt8} {cc : Nat}, Sl w .u8 a l.length cc (bs8 l) → a = none → l.length = 0 := fun hs h => by
    rcases hs.mem with ⟨_, h2⟩ | ⟨b, off, e, _, _⟩
    · have := hs.le; omega
    · rw [h] at e; cases e
  have hCk : ∀ {w'}, Kp No W w' → ∃ fz, Blk w' 1 243 fz (ints .u64 (ws kSha)) := fun k => by obtain ⟨fz, hc⟩ := hC; exact ⟨fz, hc.kp k fun h => h⟩
  have hC1 : 1 < W.heap.size := by obtain ⟨fz, hc⟩ := hC; exact hc.lt
  refine calls_at (n := 142) Tryd.func4 rfl rfl (by simp) ?_
  (refine At_seq ?_; refine At_region ?_; refine s_as ?_; refine AtR_nil ?_; refine At_seq ?_; refine At_seq ?_; refine At_region ?_)
  refine s_call x_call (awake16_calls _ hC) ?_
  rintro _ w1 ⟨rfl, K1⟩
  refine ⟨_, rfl, ?_⟩
  by_cases hs1 : 100 < key.length
  · (refine s_nt ?_; refine s_mv ?_; refine s_yes rfl rfl rfl rfl ?_; refine g_mv ?_; refine s_yes rfl rfl rfl rfl ?_; refine g_ln ?_; refine s_yes rfl rfl rfl rfl ?_; refine g_gtr ?_; refine s_pf ?_; refine s_mv ?_; refine s_no rfl rfl rfl rfl ?_; refine s_no rfl rfl rfl rfl ?_; refine s_no rfl rfl rfl rfl ?_; refine s_pt ?_; refine AtR_nil ?_; refine At_cond_t rfl ?_; refine At_seq ?_; refine At_region ?_)
    refine s_call x_call (awake16_calls _ (hCk K1)) ?_
    rintro _ w2 ⟨rfl, k2⟩
    refine ⟨_, rfl, ?_⟩
    (refine s_as ?_; refine AtR_nil ?_)
    refine At_ret1 Tryd.func4 rfl (by conv => lhs; whnf) ?_
    exact ⟨rfl, Kp.below (K1.trans k2)⟩
  by_cases hs2 : 100 < name.length
  · (refine s_nt ?_; refine s_mv ?_; refine s_yes rfl rfl rfl rfl ?_; refine g_mv ?_; refine s_yes rfl rfl rfl rfl ?_; refine g_ln ?_; refine s_yes rfl rfl rfl rfl ?_; refine g_gtr ?_; refine s_pf ?_; refine s_mv ?_; refine s_yes rfl rfl rfl rfl ?_; refine g_mv ?_; refine s_yes rfl rfl rfl rfl ?_; refine g_ln ?_; refine s_yes rfl rfl rfl rfl ?_; refine g_gtr ?_; refine s_pf ?_; refine AtR_nil ?_; refine At_cond_t rfl ?_; refine At_seq ?_; refine At_region ?_)
    refine s_call x_call (awake16_calls _ (hCk K1)) ?_
    rintro _ w2 ⟨rfl, k2⟩
    refine ⟨_, rfl, ?_⟩
    (refine s_as ?_; refine AtR_nil ?_)
    refine At_ret1 Tryd.func4 rfl (by conv => lhs; whnf) ?_
    exact ⟨rfl, Kp.below (K1.trans k2)⟩
  (refine s_nt ?_; refine s_mv ?_; refine s_yes rfl rfl rfl rfl ?_; refine g_mv ?_; refine s_yes rfl rfl rfl rfl ?_; refine g_ln ?_; refine s_yes rfl rfl rfl rfl ?_; refine g_gtr ?_; refine s_pf ?_; refine s_mv ?_; refine s_yes rfl rfl rfl rfl ?_; refine g_mv ?_; refine s_yes rfl rfl rfl rfl ?_; refine g_ln ?_; refine s_yes rfl rfl rfl rfl ?_; refine g_gtr ?_; refine s_pf ?_; refine AtR_nil ?_; refine At_cond_f rfl ?_; refine At_skip ?_; refine At_seq ?_; refine At_region ?_)
  refine s_val (x_build rfl (built51 10)) ?_
  refine AtR_go rfl (AtG_box rfl fun sp w2 hsp e2 => ?_)
  have SP : Blk w2 sp 51 (0, 0) [.slice none 0 0, .slice none 0 0, .int .i64 ((10 : Nat) : Int)] := e2.blk
  have k2 : Kp No w1 w2 := e2.kp (.inr (by omega))
  have hst2 := st_new SP (by omega)
  clear e2
  have lsp := SP.lt
  have K2 := K1.trans k2
  have z1 := K1.size
  have z2 := k2.size
  (refine s_as ?_; refine AtR_nil ?_; refine At_seq ?_; refine At_region ?_; refine s_mv ?_; refine s_mv ?_; refine s_mv ?_)
  refine s_call x_call (grove_wood sp key name ak an cap cap2 _ hst2 (hCk K2) (by omega) ((hk.kpn K2).e (D := fun _ => True) fun _ _ => trivial) (none0 hk) ((hn.kpn K2).e (D := fun _ => True) fun _ _ => trivial) (none0 hn) ⟨by omega, by omega⟩) ?_
  rintro _ w3 ⟨g, bo, Dg, rfl, hW3, hDg, k3⟩
  refine ⟨_, rfl, ?_⟩
  have K3 := K2.trans k3
  have z3 := k3.size
  (refine s_as ?_; refine AtR_nil ?_; refine At_seq ?_; refine At_seq ?_; refine At_region ?_; refine s_mv ?_; refine s_eqlp ?_; refine AtR_nil ?_; refine At_cond_f rfl ?_; refine At_skip ?_; refine At_seq ?_; refine At_region ?_; refine s_mv ?_)
  refine s_val (x_build (by first | rfl | exact rfl) built40_nil) ?_
  (refine s_mv ?_)
  refine s_call x_call (block_calls c _) ?_
  rintro _ w4 ⟨bb, rfl, hob, hbb, k4⟩
  refine ⟨_, rfl, ?_⟩
  have own_db : ∀ {w : World} {b : Nat} {l : List UInt8}, Own w 5 1 (some ⟨b, 0, none⟩) 512 512 (ints .u8 (bs8 l)) → SlE w .u8 (some ⟨b, 0, none⟩) 512 512 (bs8 l) (fun j => j = b) := fun h => h.sl.e fun j hj => by simpa [blkOf] using hj.symm
  have lbb : bb < w4.heap.size := hob.lt bb rfl
  have z4 := k4.size
  have hW4 := hW3.kpn k4
  obtain ⟨hone, hones⟩ := st_one (key := key) (name := name) (blockB c) (room := 10) (by omega)
  obtain ⟨r, hr1⟩ : ∃ r : Pr, r = ⟨1, macB key name 0 0 (blockB c)⟩ := ⟨_, rfl⟩
  have hrw : r.wf := by rw [hr1]; exact ⟨macB_length key name 0 0 (blockB c), (by decide : (1 : Nat) < 9223372036854775808)⟩
  have hpv : putV key name (St.new 10) Pr.zero 0 0 (blockB c) = trC r ((0 : Nat) : Int) := by unfold putV; rw [hone, hr1]; rfl
  skip
  refine s_call x_call (Put_wood g sp bo key name (St.new 10) Pr.zero 0 0 (blockB c) _ 512 _ hW4 zero_wf (by omega) (by decide) (blockB_length c) (own_db hob) (by rintro j rfl; exact ⟨by omega, lbb⟩) (by simp [St.new])) ?_
  rw [hpv, hones, show (putT key name (St.new 10) Pr.zero 0 0 (blockB c)).1.2.2 = 0 by rw [hone]]
  rintro _ w5 ⟨rfl, Ds5, hW5, hD5, k5⟩
  refine ⟨_, rfl, ?_⟩
  have hr34 := trC_length hrw ((0 : Nat) : Int)
  have z5 := k5.size
  have hro : (trC r ((0 : Nat) : Int)).all (·.oneCell') = true := by unfold trC; rw [List.all_append, prC_one]; rfl
  (refine s_mv ?_; refine s_ex ?_; refine s_ex ?_)
  refine AtR_go rfl (AtG_alloc fun b9 w6 hb9 e6 => ?_)
  refine AtR_go rfl (G_skip (r_store_all (s := 34) (vs := trC r ((0 : Nat) : Int)) rfl rfl e6.blk hr34 rfl hro) fun w7 e7 => ?_)
  have B9 : Blk w7 b9 40 (0, 0) (trC r ((0 : Nat) : Int)) := e7.blk
  have k7 : Kp No w5 w7 := (e6.kp (S := No) (.inr (by omega))).trans' (e7.kp (S := fun j => j = b9) (.inl rfl)) (by rintro j rfl; right; omega)
  have hW7 := hW5.kpn k7
  have z7 := k7.size
  have K7 : Kp No W w7 := ((K3.trans k4).trans' k5 (by rintro j rfl; right; omega)).trans k7
  have hdeep := trC_deep hrw ((0 : Nat) : Int)
  clear e6 e7
  (refine s_as ?_; refine AtR_nil ?_; refine At_seq ?_; refine At_seq ?_)
  have kd8 := Kp.drew (S := No) (w := w7)
  let S : World → Prop := fun w' => Blk w' b9 40 (0, 0) (trC r ((0 : Nat) : Int))
  have hSk : ∀ {w w'}, S w → Kp No w w' → S w' := fun h k => Blk.kp h k fun h => h
  have hS : S w7.drew := hSk (w := w7) B9 kd8
  have hW8 := hW7.kpn kd8
  refine At_draw S rfl ?_
  (apply AtH_take 0 rfl (by decide +kernel) (by exact rfl); (focus (intro wx hx; skip; exact x_move (by conv => lhs; whnf))); (focus (exact hS)))
  (apply AtH_bool 1 rfl (by decide +kernel) (by exact rfl); (focus (intro wx hx; skip; exact x_neq rfl rfl)); (focus (exact decide_eq_false (by omega))); (focus (exact hS)))
  (apply AtH_take 2 rfl (by decide +kernel) (by exact rfl); (focus (intro wx hx; skip; exact x_move (by conv => lhs; whnf))); (focus (exact hS)))
  (apply AtH_take 3 rfl (by decide +kernel) (by exact ⟨_, _, rfl, by decide, rfl, rfl⟩); (focus (intro wx hx; skip; exact x_fieldAddrN rfl (by first | exact Nat.zero_add _ | exact Nat.add_zero _ | (simp only [Nat.reduceAdd] <;> rfl) | exact rfl))); (focus (exact hS)))
  -- ready now: 4 load 3 t48
  refine AtH_take 4 rfl (by decide +kernel) (by exact ⟨_, _, rfl, by decide, rfl, rfl⟩) (fun wx hx => x_load1 rfl hx hdeep) hS ?_
  (apply AtH_bool 5 rfl (by decide +kernel) (by exact ⟨_, _, rfl, by decide, rfl, rfl⟩); (focus (intro wx hx; skip; exact x_neq rfl rfl)); (focus (exact decide_eq_false (by omega))); (focus (exact hS)))
  (apply AtH_take 6 rfl (by decide +kernel) (by exact rfl); (focus (intro wx hx; skip; exact x_pick_f rfl (by conv => lhs; whnf))); (focus (exact hS)))
  (apply AtH_take 7 rfl (by decide +kernel) (by exact rfl); (focus (intro wx hx; skip; exact x_move (by conv => lhs; whnf))); (focus (exact hS)))
  (apply AtH_take 8 rfl (by decide +kernel) (by exact ⟨_, _, rfl, by decide, rfl, rfl⟩); (focus (intro wx hx; skip; exact x_fieldAddrN rfl (by first | exact Nat.zero_add _ | exact Nat.add_zero _ | (simp only [Nat.reduceAdd] <;> rfl) | exact rfl))); (focus (exact hS)))
  (apply AtH_take 9 rfl (by decide +kernel) (by exact ⟨_, _, rfl, by decide, rfl, rfl⟩); (focus (intro wx hx; skip; exact x_fieldAddrN rfl (by first | exact Nat.zero_add _ | exact Nat.add_zero _ | (simp only [Nat.reduceAdd] <;> rfl) | exact rfl))); (focus (exact hS)))
  (apply AtH_take 12 rfl (by decide +kernel) (by exact ⟨_, _, rfl, by decide, rfl, rfl⟩); (focus (intro wx hx; skip; exact x_move (by conv => lhs; whnf))); (focus (exact hS)))
  (apply AtH_take 13 rfl (by decide +kernel) (by exact ⟨_, _, rfl, by decide, rfl, rfl⟩); (focus (intro wx hx; skip; exact x_move (by conv => lhs; whnf))); (focus (exact hS)))
  (apply AtH_take 15 rfl (by decide +kernel) (by exact ⟨_, _, rfl, by decide, rfl, rfl⟩); (focus (intro wx hx; skip; exact x_move (by conv => lhs; whnf))); (focus (exact hS)))
  -- ready now: 10 slice 36 t54 none none none, 14 build 58 [(Prod.mk 0 0:i64) (Prod.mk 1 0:i64)], 16 call f26(t60)
  refine AtH_take 10 rfl (by decide +kernel) (by exact ⟨_, _, rfl, by decide, rfl, rfl⟩) (fun wx hx => x_slice_arr rfl) hS ?_
  refine AtH_take 11 rfl (by decide +kernel) (by exact ⟨_, _, rfl, by decide, rfl, rfl⟩) (fun wx hx => x_conv_bs rfl (mac_sl hx hrw)) hS ?_
  refine AtH_take 14 rfl (by decide +kernel) (by exact ⟨_, _, rfl, by decide, rfl, rfl⟩) (fun wx hx => x_build rfl (built58 0 0)) hS ?_
  -- ready now: 16 call f26(t60)
  refine AtH_call 16 rfl (by decide +kernel) (by exact ⟨_, _, rfl, by decide, rfl, rfl⟩) x_call  (block_calls c _) ?_
  rintro _ w8 ⟨bb8, rfl, hob8, hbb8, k8⟩
  have hS8 := hSk hS k8
  refine ⟨_, rfl, hS8, ?_⟩
  clear hS
  have hS := hS8
  refine AtH_val 17 rfl (by decide +kernel) (by exact ⟨_, _, rfl, by decide, rfl, rfl⟩) (x_conv_bs rfl (hob8.sl.e (D := fun _ => True) fun _ _ => trivial)) hS ?_
  have K8 := (K7.trans kd8).trans k8
  refine AtH_call 18 rfl (by decide +kernel) (by exact ⟨_, _, rfl, by decide, rfl, rfl⟩) x_call  (macR_calls key name 0 0 (blockB c) ak an cap cap2 _ ((hk.kpn K8).e (D := fun _ => True) fun _ _ => trivial) ((hn.kpn K8).e (D := fun _ => True) fun _ _ => trivial) ⟨by omega, by omega, by rw [blockB_length]; omega⟩ ⟨by omega, by omega⟩) ?_
  rintro _ w9 ⟨rfl, k9⟩
  have hS9 := hSk hS k9
  refine ⟨_, rfl, hS9, ?_⟩
  clear hS
  have hS := hS9
  refine AtH_val 19 rfl (by decide +kernel) (by exact ⟨_, _, rfl, by decide, rfl, rfl⟩) (x_neq_str rfl rfl) hS ?_
  rw [show decide (r.mac ≠ macB key name 0 0 (blockB c)) = false from decide_eq_false (by rw [hr1]; simp)]
  (apply AtH_take 20 rfl (by decide +kernel) (by exact rfl); (focus (intro wx hx; skip; exact x_pick_f rfl (by conv => lhs; whnf))); (focus (exact hS)))
  refine AtH_done (by decide +kernel) ?_
  have B99 : Blk w9 b9 40 (0, 0) (trC r ((0 : Nat) : Int)) := hS
  have K9 := K8.trans k9
  have hW9 := hW8.kpn (k8.trans k9)
  have hr33 := prC_length hrw
  clear hS hS8 hS9
  (refine At_cond_f rfl ?_; refine At_skip ?_; refine At_seq ?_; refine At_region ?_; refine s_fa ?_)
  refine s_val (x_load_segN rfl (trC_seg B99) hr33) ?_
  refine AtR_go rfl (AtG_alloc fun b11 w10 hb11 e10 => ?_)
  refine AtR_go rfl (G_skip (r_store_all (s := 33) (vs := prC r) rfl rfl e10.blk hr33 rfl (prC_one _)) fun w11 e11 => ?_)
  have B11 : Blk w11 b11 38 (0, 0) (prC r) := e11.blk
  have k11 : Kp No w9 w11 := (e10.kp (S := No) (.inr (by omega))).trans' (e11.kp (S := fun j => j = b11) (.inl rfl)) (by rintro j rfl; right; omega)
  clear e10 e11
  have hW11 := hW9.kpn k11
  have B911 := B99.kp k11 fun h => h
  have K11 := K9.trans k11
  have hn5 : ∀ j, Ds5 j → W.heap.size ≤ j ∧ j < w5.heap.size := fun j hj => ⟨(hD5 j hj).elim (by rintro rfl; omega) (by intro h; omega), hW5.stt.dlt j hj⟩
  have z511 := ((k7.trans kd8).trans (k8.trans k9)).size
  have z711 := (kd8.trans (k8.trans k9)).size
  have z911 := k11.size
  obtain ⟨q2, hq2⟩ : ∃ q : Pr, q = ⟨4, macB key name 1 0 (nodeB (twoPs r ⟨3, macB key name 0 1 (blockB c)⟩))⟩ := ⟨_, rfl⟩
  obtain ⟨n1, htwo, htwos⟩ := st_two (key := key) (name := name) (blockB c) (room := 10) (by omega) hr1
  have hq2w : q2.wf := by rw [hq2]; exact ⟨macB_length key name 1 0 _, (by decide : (4 : Nat) < 9223372036854775808)⟩
  have hq34 := trC_length hq2w ((1 : Nat) : Int)
  obtain ⟨st1, hst1⟩ : ∃ st1 : St, st1 = ⟨[blockB c], [true], 10⟩ := ⟨_, rfl⟩
  obtain ⟨nb, hnb⟩ : ∃ nb, nb = nodeB (twoPs r ⟨3, macB key name 0 1 (blockB c)⟩) := ⟨_, rfl⟩
  obtain ⟨st2, hst2'⟩ : ∃ st2 : St, st2 = ⟨[blockB c, n1, blockB c, nb], [true, false, true, true], 10⟩ := ⟨_, rfl⟩
  rw [← hst1] at hW11
  have hputs : ∀ {wx : World} {bx : Nat}, Kp No w11 wx → w11.heap.size ≤ bx → Own wx 5 1 (some ⟨bx, 0, none⟩) 512 512 (ints .u8 (bs8 (blockB c))) →
      Calls Tryd.prog 25 #[.pointer (some ⟨g, 0, none⟩), .agg (trC r ((0 : Nat) : Int)).toArray, .int .i64 ((1 : Nat) : Int), .slice (some ⟨bx, 0, none⟩) 512 512] wx fun e w' => e = .returned (.tuple #[.agg (trC q2 ((1 : Nat) : Int)).toArray, .int .i64 0]) ∧
        ∃ Ds', Wood w' g sp bo key name st2 Ds' Dg ∧ (∀ j, Ds' j → Ds5 j ∨ wx.heap.size ≤ j) ∧ Kp Ds5 wx w' := by
    intro wx bx kx hbx hox
    have hlx := hox.lt bx rfl
    refine (Put_wood g sp bo key name st1 r 0 1 (blockB c) _ 512 _ (hW11.kpn kx) hrw (by omega) (by decide) (blockB_length c) (own_db hox) (by rintro j rfl; exact ⟨fun hd => by have := (hn5 _ hd).2; omega, hlx⟩) (by rw [hst1]; simp)).mono ?_
    have hpv2 : putV key name st1 r 0 1 (blockB c) = trC q2 ((1 : Nat) : Int) := by unfold putV; rw [hst1, htwo, hq2]; rfl
    rw [hpv2, show (putT key name st1 r 0 1 (blockB c)).1.2.2 = 0 by rw [hst1, htwo], show putS key name st1 r 0 1 (blockB c) = st2 by rw [hst1, htwos, hst2', hnb]]
    exact fun e w' h => h
  (refine AtR_nil ?_; refine At_seq ?_)
  refine At_meet (σ := Nat) (fun b12 => [(0, .slice ak key.length cap), (1, .slice an name.length cap2), (2, .int .u8 (ub c)), (7, .pointer (some ⟨sp, 0, none⟩)), (11, .pointer (some ⟨b11, 0, none⟩)), (12, .pointer (some ⟨b12, 0, none⟩)), (13, .int .i64 0)])
    (fun b12 w' => ∃ Ds', Wood w' g sp bo key name st2 Ds' Dg ∧ Blk w' b12 40 (0, 0) (trC q2 ((1 : Nat) : Int)) ∧ Blk w' b11 38 (0, 0) (prC r) ∧ Kp No W w') ?_ ?_
  rotate_left
  · intro join
    have kd := Kp.drew (S := No) (w := w11)
    have hSd : S w11.drew := Blk.kp B911 kd fun h => h
    have hS := hSd
    refine At_draw S rfl ?_
    (apply AtH_take 0 rfl (by decide +kernel) (by exact rfl); (focus (intro wx hx; skip; exact x_move (by conv => lhs; whnf))); (focus (exact hS)))
    (apply AtH_take 2 rfl (by decide +kernel) (by exact rfl); (focus (intro wx hx; skip; exact x_move (by conv => lhs; whnf))); (focus (exact hS)))
    -- ready now: 1 load 40 t9, 3 call f26(t71), 8 alloc 40
    refine AtH_take 1 rfl (by decide +kernel) (by exact rfl) (fun wx hx => x_load_all rfl hx hr34) hS ?_
    have hng : ∀ j, w11.heap.size ≤ j → ¬ Dg j := fun j hj hd => by have := (hW3.sep j hd).2; omega
    have zd := kd.size
    have l11 := B11.lt
    have fin : ∀ {wa wb : World} {b12 : Nat} {Ds' : Nat → Prop}, Wood wa g sp bo key name st2 Ds' Dg → ¬ Ds' b12 → w11.heap.size ≤ b12 → Blk wa b11 38 (0, 0) (prC r) → Kp No W wa → Eff wa wb b12 (.cells (trC q2 ((1 : Nat) : Int)).toArray 40 (0, 0)) →
        ∃ Ds', Wood wb g sp bo key name st2 Ds' Dg ∧ Blk wb b12 40 (0, 0) (trC q2 ((1 : Nat) : Int)) ∧ Blk wb b11 38 (0, 0) (prC r) ∧ Kp No W wb := fun {wa wb b12 Ds'} hw hn hb hB hK he => by
      have k : Kp (fun j => j = b12) wa wb := he.kp (.inl rfl)
      exact ⟨Ds', hw.kp k (by rintro j rfl; exact ⟨hn, hng _ hb⟩), he.blk, hB.kp k (by omega), hK.trans' k (by rintro j rfl; right; omega)⟩
    have KD := K11.trans kd
    have B11d := B11.kp kd fun h => h
    refine AtH_pairX 8 3 rfl rfl (by first | exact .inl (by decide +kernel) | exact .inr (by decide +kernel)) (by exact rfl) (by exact rfl) r_alloc x_call (block_calls c _) ?_ ?_
    · rintro _ w12 ⟨b12, rfl, hb12, e12⟩
      have B12 : Blk w12 b12 40 (0, 0) z40 := e12.blk
      have k12 : Kp No w11.drew w12 := e12.kp (.inr (by omega))
      have hS12 := hSk hS k12
      refine ⟨hS12, ?_⟩
      clear hS
      refine AtH_call 3 rfl (by decide +kernel) (by exact rfl) x_call  (block_calls c _) ?_
      rintro _ w13 ⟨bx, rfl, hox, hbx, k13⟩
      have hS := hSk hS12 k13
      refine ⟨_, rfl, hS, ?_⟩
      have z12 := k12.size
      have z13 := k13.size
      have l12 := B12.lt
      refine AtH_call 4 rfl (by decide +kernel) (by exact rfl) x_call  (hputs ((kd.trans k12).trans k13) (by omega) hox) ?_
      rintro _ w14 ⟨rfl, Ds', hW14, hD14, k14⟩
      have hS14 : S w14 := Blk.kp hS k14 (fun hd => by have := (hn5 _ hd).2; omega)
      refine ⟨_, rfl, hS14, ?_⟩
      clear hS
      have hS := hS14
      have hn12 : ¬ Ds' b12 := fun hd => (hD14 b12 hd).elim (fun h => by have := (hn5 _ h).2; omega) (fun h => by omega)
      (apply AtH_take 5 rfl (by decide +kernel) (by exact rfl); (focus (intro wx hx; skip; exact x_move (by conv => lhs; whnf))); (focus (exact hS)))
      (apply AtH_take 6 rfl (by decide +kernel) (by exact rfl); (focus (intro wx hx; skip; exact x_extract rfl rfl)); (focus (exact hS)))
      (apply AtH_take 7 rfl (by decide +kernel) (by exact rfl); (focus (intro wx hx; skip; exact x_extract rfl rfl)); (focus (exact hS)))
      -- ready now: 9 store 40 t12 t74
      refine H_skip 9 rfl (by decide +kernel) (by exact rfl) (r_store_all (s := 34) (vs := trC q2 ((1 : Nat) : Int)) rfl rfl (((B12.kp k13 fun h => h).kp k14 (fun hd => by have := (hn5 _ hd).2; omega))) hq34 rfl (trC_one _ _)) ?_
      intro w15 e15
      have hS15 : S w15 := Blk.kp hS14 (e15.kp (S := fun j => j = b12) (.inl rfl)) (by omega)
      refine ⟨hS15, ?_⟩
      clear hS
      have hS := hS15
      (apply AtH_take 10 rfl (by decide +kernel) (by exact rfl); (focus (intro wx hx; skip; exact x_assign (by conv => lhs; whnf))); (focus (exact hS)))
      refine AtH_done (by decide +kernel) ?_
      exact join b12 _ _ ⟨rfl, rfl, rfl, rfl, rfl, rfl, rfl, trivial⟩ (fin hW14 hn12 (by omega) ((B11d.kp (k12.trans k13) fun h => h).kp k14 (fun hd => by have := (hn5 _ hd).2; omega)) ((KD.trans (k12.trans k13)).trans' k14 (fun j hd => .inr (hn5 _ hd).1)) e15)
    · rintro _ w12 ⟨bx, rfl, hox, hbx, k12⟩
      have hS12 := hSk hS k12
      refine ⟨_, rfl, hS12, ?_⟩
      clear hS
      have hS := hS12
      have z12 := k12.size
      refine AtH_pairX 8 4 rfl rfl (by first | exact .inl (by decide +kernel) | exact .inr (by decide +kernel)) (by exact rfl) (by exact rfl) r_alloc x_call (hputs (kd.trans k12) (by omega) hox) ?_ ?_
      · rintro _ w13 ⟨b12, rfl, hb12, e13⟩
        have B12 : Blk w13 b12 40 (0, 0) z40 := e13.blk
        have k13 : Kp No w12 w13 := e13.kp (.inr (by omega))
        have hS13 := hSk hS k13
        refine ⟨hS13, ?_⟩
        clear hS
        have hS := hS13
        have z13 := k13.size
        have l12 := B12.lt
        refine AtH_call 4 rfl (by decide +kernel) (by exact rfl) x_call  (hputs ((kd.trans k12).trans k13) (by omega) (hox.kp k13 fun _ _ h => h)) ?_
        rintro _ w14 ⟨rfl, Ds', hW14, hD14, k14⟩
        have hS14 : S w14 := Blk.kp hS k14 (fun hd => by have := (hn5 _ hd).2; omega)
        refine ⟨_, rfl, hS14, ?_⟩
        clear hS
        have hS := hS14
        have hn12 : ¬ Ds' b12 := fun hd => (hD14 b12 hd).elim (fun h => by have := (hn5 _ h).2; omega) (fun h => by omega)
        (apply AtH_take 5 rfl (by decide +kernel) (by exact rfl); (focus (intro wx hx; skip; exact x_move (by conv => lhs; whnf))); (focus (exact hS)))
        (apply AtH_take 6 rfl (by decide +kernel) (by exact rfl); (focus (intro wx hx; skip; exact x_extract rfl rfl)); (focus (exact hS)))
        (apply AtH_take 7 rfl (by decide +kernel) (by exact rfl); (focus (intro wx hx; skip; exact x_extract rfl rfl)); (focus (exact hS)))
        -- ready now: 9 store 40 t12 t74
        refine H_skip 9 rfl (by decide +kernel) (by exact rfl) (r_store_all (s := 34) (vs := trC q2 ((1 : Nat) : Int)) rfl rfl (B12.kp k14 (fun hd => by have := (hn5 _ hd).2; omega)) hq34 rfl (trC_one _ _)) ?_
        intro w15 e15
        have hS15 : S w15 := Blk.kp hS14 (e15.kp (S := fun j => j = b12) (.inl rfl)) (by omega)
        refine ⟨hS15, ?_⟩
        clear hS
        have hS := hS15
        (apply AtH_take 10 rfl (by decide +kernel) (by exact rfl); (focus (intro wx hx; skip; exact x_assign (by conv => lhs; whnf))); (focus (exact hS)))
        refine AtH_done (by decide +kernel) ?_
        exact join b12 _ _ ⟨rfl, rfl, rfl, rfl, rfl, rfl, rfl, trivial⟩ (fin hW14 hn12 (by omega) ((B11d.kp (k12.trans k13) fun h => h).kp k14 (fun hd => by have := (hn5 _ hd).2; omega)) ((KD.trans (k12.trans k13)).trans' k14 (fun j hd => .inr (hn5 _ hd).1)) e15)
      · rintro _ w14 ⟨rfl, Ds', hW14, hD14, k14⟩
        have hS14 : S w14 := Blk.kp hS k14 (fun hd => by have := (hn5 _ hd).2; omega)
        refine ⟨_, rfl, hS14, ?_⟩
        clear hS
        have hS := hS14
        (apply AtH_take 5 rfl (by decide +kernel) (by exact rfl); (focus (intro wx hx; skip; exact x_move (by conv => lhs; whnf))); (focus (exact hS)))
        (apply AtH_take 6 rfl (by decide +kernel) (by exact rfl); (focus (intro wx hx; skip; exact x_extract rfl rfl)); (focus (exact hS)))
        (apply AtH_take 7 rfl (by decide +kernel) (by exact rfl); (focus (intro wx hx; skip; exact x_extract rfl rfl)); (focus (exact hS)))
        -- ready now: 8 alloc 40
        refine H_val 8 rfl (by decide +kernel) (by exact rfl) r_alloc ?_
        rintro _ w13 ⟨b12, rfl, hb12, e13⟩
        have B12 : Blk w13 b12 40 (0, 0) z40 := e13.blk
        have k13 : Kp No w14 w13 := e13.kp (.inr (by omega))
        have hS13 := hSk hS k13
        refine ⟨hS13, ?_⟩
        clear hS
        have hS := hS13
        have z14 := k14.size
        have hn12 : ¬ Ds' b12 := fun hd => by have := hW14.stt.dlt _ hd; omega
        -- ready now: 9 store 40 t12 t74
        refine H_skip 9 rfl (by decide +kernel) (by exact rfl) (r_store_all (s := 34) (vs := trC q2 ((1 : Nat) : Int)) rfl rfl B12 hq34 rfl (trC_one _ _)) ?_
        intro w15 e15
        have hS15 : S w15 := Blk.kp hS13 (e15.kp (S := fun j => j = b12) (.inl rfl)) (by omega)
        refine ⟨hS15, ?_⟩
        clear hS
        have hS := hS15
        (apply AtH_take 10 rfl (by decide +kernel) (by exact rfl); (focus (intro wx hx; skip; exact x_assign (by conv => lhs; whnf))); (focus (exact hS)))
        refine AtH_done (by decide +kernel) ?_
        exact join b12 _ _ ⟨rfl, rfl, rfl, rfl, rfl, rfl, rfl, trivial⟩ (fin (hW14.kpn k13) hn12 (by omega) (((B11d.kp k12 fun h => h).kp k14 (fun hd => by have := (hn5 _ hd).2; omega)).kp k13 fun h => h) (((KD.trans k12).trans' k14 (fun j hd => .inr (hn5 _ hd).1)).trans k13) e15)
  rintro b12 w12 junk ⟨Ds6, hW12, B12, B11a, K12⟩
  clear hputs hn5 hSk S
  have hdeep2 := trC_deep hq2w ((1 : Nat) : Int)
  (refine At_seq ?_; refine At_seq ?_; refine At_region ?_; refine s_mv ?_; refine s_neq ?_; refine s_mv ?_; refine s_yes rfl rfl rfl rfl ?_; refine g_fa ?_)
  refine s_yes rfl rfl rfl rfl (g_val (x_load1 rfl B12 hdeep2) ?_)
  (refine s_yes rfl rfl rfl rfl ?_; refine g_neq ?_; refine s_pf ?_; refine AtR_nil ?_; refine At_cond_f rfl ?_; refine At_skip ?_; refine At_seq ?_; refine At_region ?_)
  refine s_val (x_build (by first | rfl | exact rfl) (built38_s 3)) ?_
  refine AtR_go rfl (AtG_alloc fun b14 w13 hb14 e13 => ?_)
  obtain ⟨q3, hq3⟩ : ∃ q : Pr, q = ⟨3, List.replicate 32 0⟩ := ⟨_, rfl⟩
  refine AtR_go rfl (G_skip (r_store_all (s := 33) (vs := prC q3) (by first | rfl | exact rfl) (by rw [hq3]; rfl) e13.blk (by rw [hq3]; rfl) rfl (prC_one _)) fun w14 e14 => ?_)
  have B14 : Blk w14 b14 38 (0, 0) (prC q3) := e14.blk
  have k14 : Kp No w12 w14 := (e13.kp (S := No) (.inr (by omega))).trans' (e14.kp (S := fun j => j = b14) (.inl rfl)) (by rintro j rfl; right; omega)
  clear e13 e14
  have K14 := K12.trans k14
  have B12b := B12.kp k14 fun h => h
  have B11b := B11a.kp k14 fun h => h
  have hW14 := hW12.kpn k14
  have l11 := B11a.lt
  have l12 := B12.lt
  have hne14 : b14 ≠ b11 ∧ b14 ≠ b12 := ⟨by omega, by omega⟩
  (refine AtR_nil ?_; refine At_seq ?_)
  have kd15 := Kp.drew (S := No) (w := w14)
  have K15 := K14.trans kd15
  have hS : True := trivial
  refine At_draw (fun _ => True) rfl ?_
  (apply AtH_take 0 rfl (by decide +kernel) (by exact rfl); (focus (intro wx hx; skip; exact x_fieldAddrN rfl (by first | exact Nat.zero_add _ | exact Nat.add_zero _ | (simp only [Nat.reduceAdd] <;> rfl) | exact rfl))); (focus (exact hS)))
  (apply AtH_take 2 rfl (by decide +kernel) (by exact rfl); (focus (intro wx hx; skip; exact x_move (by conv => lhs; whnf))); (focus (exact hS)))
  (apply AtH_take 3 rfl (by decide +kernel) (by exact rfl); (focus (intro wx hx; skip; exact x_move (by conv => lhs; whnf))); (focus (exact hS)))
  (apply AtH_take 5 rfl (by decide +kernel) (by exact rfl); (focus (intro wx hx; skip; exact x_move (by conv => lhs; whnf))); (focus (exact hS)))
  -- ready now: 1 slice 36 t84 none none none, 4 build 58 [(Prod.mk 0 0:i64) (Prod.mk 1 1:i64)], 6 call f26(t89)
  refine AtH_take 1 rfl (by decide +kernel) (by exact rfl) (fun wx hx => x_slice_arr rfl) hS ?_
  refine AtH_take 4 rfl (by decide +kernel) (by exact rfl) (fun wx hx => x_build rfl (built58 0 1)) hS ?_
  -- ready now: 6 call f26(t89)
  refine AtH_call 6 rfl (by decide +kernel) (by exact rfl) x_call  (block_calls c _) ?_
  rintro _ w15 ⟨bb15, rfl, hob15, hbb15, k15⟩
  refine ⟨_, rfl, hS, ?_⟩
  refine AtH_val 7 rfl (by decide +kernel) (by exact rfl) (x_conv_bs rfl (hob15.sl.e (D := fun _ => True) fun _ _ => trivial)) hS ?_
  have K15b := K15.trans k15
  refine AtH_call 8 rfl (by decide +kernel) (by exact rfl) x_call  (macR_calls key name 0 1 (blockB c) ak an cap cap2 _ ((hk.kpn K15b).e (D := fun _ => True) fun _ _ => trivial) ((hn.kpn K15b).e (D := fun _ => True) fun _ _ => trivial) ⟨by omega, by omega, by rw [blockB_length]; omega⟩ ⟨by omega, by omega⟩) ?_
  rintro _ w16 ⟨rfl, k16⟩
  refine ⟨_, rfl, hS, ?_⟩
  have hml : (macB key name 0 1 (blockB c)).length = 32 := macB_length key name 0 1 (blockB c)
  have kk16 := (kd15.trans k15).trans k16
  have B14b := B14.kp kk16 fun h => h
  rw [hq3] at B14b
  refine H_val 9 rfl (by decide +kernel) (by exact rfl) (r_copy_strA rfl rfl hml B14b (by simp [prC])) ?_
  rintro _ w17 ⟨rfl, e17⟩
  rw [mac_lay (by simp) hml] at e17
  refine ⟨hS, ?_⟩
  refine AtH_done (by decide +kernel) ?_
  obtain ⟨q4, hq4⟩ : ∃ q : Pr, q = ⟨3, macB key name 0 1 (blockB c)⟩ := ⟨_, rfl⟩
  rw [← hq4] at e17 hnb hq2
  have hq4w : q4.wf := by rw [hq4]; exact ⟨hml, (by decide : (3 : Nat) < 9223372036854775808)⟩
  have B14c : Blk w17 b14 38 (0, 0) (prC q4) := e17.blk
  have k17 : Kp (fun j => j = b14) w16 w17 := e17.kp (.inl rfl)
  have kk17 : Kp (fun j => j = b14) w14 w17 := (kk16.mono fun _ h => h.elim).trans k17
  have z14 := K14.size
  have l14 := B14.lt
  have hb14W : W.heap.size ≤ b14 := by have := K12.size; omega
  have K17 : Kp No W w17 := K14.trans' kk17 (by rintro j rfl; right; exact hb14W)
  have B11c := B11b.kp kk17 (Ne.symm hne14.1)
  have B12c := B12b.kp kk17 (Ne.symm hne14.2)
  have hW17 := hW14.kp kk17 (by
    rintro j rfl
    exact ⟨fun hd => by have := hW12.stt.dlt _ hd; omega, fun hd => by have := (hW12.sep _ hd).2; omega⟩)
  have hb2 : st2.b.length = 4 := by rw [hst2']; rfl
  obtain ⟨ab, cb, ai, ci, SP17, hseg17, lab⟩ := hW17.stt.sec (by omega)
  rw [hb2] at SP17
  have hq4s : ∃ rest, prC q2 ++ [.int .i64 ((1 : Nat) : Int)] = .int .i64 ((4 : Nat) : Int) :: rest := ⟨_, by rw [hq2]; rfl⟩
  obtain ⟨rest2, hrest2⟩ := hq4s
  clear e17 hS
  (refine At_seq ?_)
  have kd18 := Kp.drew (S := No) (w := w17)
  let S : World → Prop := fun w' => Blk w' sp 51 (0, 0) [.slice (some ⟨ab, 0, none⟩) 4 cb, .slice ai 4 ci, .int .i64 (st2.room : Int)] ∧ Blk w' b12 40 (0, 0) (.int .i64 ((4 : Nat) : Int) :: rest2) ∧ Seg w' ab 0 (st2.b.map strV)
  have hS : S w17.drew := ⟨SP17.kp kd18 fun h => h, by have := B12c.kp kd18 fun h => h; unfold trC at this; rw [hrest2] at this; exact this, hseg17.kp kd18 (fun h => h) lab⟩
  have hget3 : (st2.b.map strV)[3]? = some (strV nb) := by rw [hst2']; rfl
  refine At_draw S rfl ?_
  (apply AtH_take 0 rfl (by decide +kernel) (by exact rfl); (focus (intro wx hx; skip; exact x_move (by conv => lhs; whnf))); (focus (exact hS)))
  (apply AtH_take 1 rfl (by decide +kernel) (by exact rfl); (focus (intro wx hx; skip; exact x_nilCheck rfl)); (focus (exact hS)))
  (apply AtH_take 2 rfl (by decide +kernel) (by exact rfl); (focus (intro wx hx; skip; exact x_fieldAddrN rfl (by first | exact Nat.zero_add _ | exact Nat.add_zero _ | (simp only [Nat.reduceAdd] <;> rfl) | exact rfl))); (focus (exact hS)))
  (apply AtH_take 4 rfl (by decide +kernel) (by exact rfl); (focus (intro wx hx; skip; exact x_fieldAddrN rfl (by first | exact Nat.zero_add _ | exact Nat.add_zero _ | (simp only [Nat.reduceAdd] <;> rfl) | exact rfl))); (focus (exact hS)))
  (apply AtH_take 5 rfl (by decide +kernel) (by exact rfl); (focus (intro wx hx; skip; exact x_fieldAddrN rfl (by first | exact Nat.zero_add _ | exact Nat.add_zero _ | (simp only [Nat.reduceAdd] <;> rfl) | exact rfl))); (focus (exact hS)))
  -- ready now: 3 load 48 t96, 6 load 3 t99
  refine AtH_take 3 rfl (by decide +kernel) (by exact rfl) (fun wx hx => x_load1 rfl hx.1 rfl) hS ?_
  refine AtH_take 6 rfl (by decide +kernel) (by exact rfl) (fun wx hx => x_load1 rfl hx.2.1 rfl) hS ?_
  (apply AtH_take 7 rfl (by decide +kernel) (by exact rfl); (focus (intro wx hx; skip; exact x_sub64 rfl rfl (by omega) (by omega))); (focus (exact hS)))
  (apply AtH_take 8 rfl (by decide +kernel) (by exact rfl); (focus (intro wx hx; skip; exact x_indexAddrN1 rfl rfl (by omega))); (focus (exact hS)))
  -- ready now: 9 load 9 t102
  refine AtH_take 9 rfl (by decide +kernel) (by exact rfl) (fun wx hx => x_load_seg rfl hx.2.2 hget3) hS ?_
  (apply AtH_take 10 rfl (by decide +kernel) (by exact rfl); (focus (intro wx hx; skip; exact x_assign (by conv => lhs; whnf))); (focus (exact hS)))
  refine AtH_done (by decide +kernel) ?_
  have hnb36 : nb.take 36 = packB r := by rw [hnb]; exact two_first hrw
  have hnb40 : (nb.drop 40).take 32 = q4.mac := by rw [hnb]; exact two_second hrw hq4w
  have hnb72 : nb.drop 72 = List.replicate 440 0 := by rw [hnb]; exact two_rest hrw hq4w
  have hnbl : nb.length = 512 := by
    have := List.length_drop (i := 72) (l := nb)
    rw [hnb72, List.length_replicate] at this
    omega
  clear hS S SP17 hseg17
  have K18 := K17.trans kd18
  have B11e := B11c.kp kd18 fun h => h
  have B12e := B12c.kp kd18 fun h => h
  have B14e := B14c.kp kd18 fun h => h
  (refine At_seq ?_; refine At_seq ?_)
  have kd19 := Kp.drew (S := No) (w := w17.drew)
  let S : World → Prop := fun w' => Blk w' b11 38 (0, 0) (prC r) ∧ Blk w' b14 38 (0, 0) (prC q4)
  have hSk : ∀ {w w'}, S w → Kp No w w' → S w' := fun h k => ⟨h.1.kp k fun h => h, h.2.kp k fun h => h⟩
  have hS : S w17.drew.drew := hSk (w := w17.drew) ⟨B11e, B14e⟩ kd19
  have hsl4 : ∀ {w'}, Blk w' b14 38 (0, 0) (prC q4) → SlE w' .u8 (some ⟨b14, 1, none⟩) 32 32 (bs8 q4.mac) (fun _ => True) := fun h => mac_sl (sp := []) (by rw [List.append_nil]; exact h) hq4w
  refine At_draw S rfl ?_
  (apply AtH_take 0 rfl (by decide +kernel) (by exact rfl); (focus (intro wx hx; skip; exact x_move (by conv => lhs; whnf))); (focus (exact hS)))
  -- ready now: 1 slice 9 t104 none (some 36:i64) none, 2 load 38 t11
  refine AtH_take 1 rfl (by decide +kernel) (by exact rfl) (fun wx hx => x_slice_str_h (m := 36) rfl rfl (by omega)) hS ?_
  refine AtH_take 2 rfl (by decide +kernel) (by exact rfl) (fun wx hx => x_load_all rfl hx.1 hr33) hS ?_
  refine AtH_call 3 rfl (by decide +kernel) (by exact rfl) x_call  (packR_calls r _ hrw) ?_
  rintro _ w18 ⟨rfl, k18⟩
  have hS18 := hSk hS k18
  refine ⟨_, rfl, hS18, ?_⟩
  clear hS
  have hS := hS18
  refine AtH_val 4 rfl (by decide +kernel) (by exact rfl) (x_neq_str rfl rfl) hS ?_
  rw [show decide (nb.take 36 ≠ packB r) = false from decide_eq_false (by rw [hnb36]; simp)]
  (apply AtH_take 5 rfl (by decide +kernel) (by exact rfl); (focus (intro wx hx; skip; exact x_move (by conv => lhs; whnf))); (focus (exact hS)))
  (apply AtH_take 6 rfl (by decide +kernel) (by exact ⟨_, _, rfl, by decide, rfl, rfl⟩); (focus (intro wx hx; skip; exact x_move (by conv => lhs; whnf))); (focus (exact hS)))
  (apply AtH_take 8 rfl (by decide +kernel) (by exact ⟨_, _, rfl, by decide, rfl, rfl⟩); (focus (intro wx hx; skip; exact x_fieldAddrN rfl (by first | exact Nat.zero_add _ | exact Nat.add_zero _ | (simp only [Nat.reduceAdd] <;> rfl) | exact rfl))); (focus (exact hS)))
  -- ready now: 7 slice 9 t110 (some 40:i64) (some 72:i64) none, 9 slice 36 t112 none none none
  refine AtH_take 7 rfl (by decide +kernel) (by exact ⟨_, _, rfl, by decide, rfl, rfl⟩) (fun wx hx => x_slice_str_lh (a := 40) (m := 72) rfl rfl rfl (by omega) (by omega)) hS ?_
  refine AtH_take 9 rfl (by decide +kernel) (by exact ⟨_, _, rfl, by decide, rfl, rfl⟩) (fun wx hx => x_slice_arr rfl) hS ?_
  refine AtH_take 10 rfl (by decide +kernel) (by exact ⟨_, _, rfl, by decide, rfl, rfl⟩) (fun wx hx => x_conv_bs rfl (hsl4 hx.2)) hS ?_
  refine AtH_take 11 rfl (by decide +kernel) (by exact ⟨_, _, rfl, by decide, rfl, rfl⟩) (fun wx hx => x_neq_str rfl rfl) hS ?_
  rw [show decide ((nb.drop 40).take (72 - 40) ≠ q4.mac) = false from decide_eq_false (by rw [show 72 - 40 = 32 from rfl, hnb40]; simp)]
  (apply AtH_take 12 rfl (by decide +kernel) (by exact rfl); (focus (intro wx hx; skip; exact x_pick_f rfl (by conv => lhs; whnf))); (focus (exact hS)))
  (apply AtH_take 13 rfl (by decide +kernel) (by exact rfl); (focus (intro wx hx; skip; exact x_move (by conv => lhs; whnf))); (focus (exact hS)))
  (apply AtH_take 14 rfl (by decide +kernel) (by exact ⟨_, _, rfl, by decide, rfl, rfl⟩); (focus (intro wx hx; skip; exact x_move (by conv => lhs; whnf))); (focus (exact hS)))
  -- ready now: 15 slice 9 t118 (some 72:i64) none none, 16 makeSlice 31 440:i64 440:i64
  refine AtH_take 15 rfl (by decide +kernel) (by exact ⟨_, _, rfl, by decide, rfl, rfl⟩) (fun wx hx => x_slice_str_l (a := 72) rfl rfl (by omega)) hS ?_
  refine H_val 16 rfl (by decide +kernel) (by exact ⟨_, _, rfl, by decide, rfl, rfl⟩) (r_make1 (z := .int .u8 0) rfl rfl (by omega) (by omega) rfl (by omega) (by omega)) ?_
  rintro _ w19 ⟨bz, rfl, hbz, e19⟩
  have BZ : Blk w19 bz 5 (0, 0) (ints .u8 (bs8 (List.replicate 440 0))) := by
    have := e19.blk
    rw [show (List.replicate (440 : Int).toNat (Value.int .u8 0)) = ints .u8 (bs8 (List.replicate 440 0)) by simp [ints, bs8, ub]] at this
    exact this
  have k19 : Kp No w18 w19 := e19.kp (.inr (by omega))
  have hS19 := hSk hS k19
  refine ⟨hS19, ?_⟩
  clear hS
  have hS := hS19
  refine AtH_val 17 rfl (by decide +kernel) (by exact ⟨_, _, rfl, by decide, rfl, rfl⟩) (x_conv_bs (l := List.replicate 440 0) rfl ((BZ.sl (m := 440) (by simp) (by omega)).e (D := fun _ => True) fun _ _ => trivial)) hS ?_
  refine AtH_val 18 rfl (by decide +kernel) (by exact ⟨_, _, rfl, by decide, rfl, rfl⟩) (x_neq_str rfl rfl) hS ?_
  rw [show decide (nb.drop 72 ≠ List.replicate 440 0) = false from decide_eq_false (by rw [hnb72]; simp)]
  (apply AtH_take 19 rfl (by decide +kernel) (by exact rfl); (focus (intro wx hx; skip; exact x_pick_f rfl (by conv => lhs; whnf))); (focus (exact hS)))
  refine AtH_done (by decide +kernel) ?_
  have K19 := ((K18.trans kd19).trans k18).trans k19
  have kk19 := (kd19.trans k18).trans k19
  have B11f := B11e.kp kk19 fun h => h
  have B12f := B12e.kp kk19 fun h => h
  clear hS hS18 hS19 hSk S
  (refine At_cond_f rfl ?_; refine At_skip ?_; refine At_seq ?_)
  have kd20 := Kp.drew (S := No) (w := w19)
  let S : World → Prop := fun w' => Blk w' b11 38 (0, 0) (prC r) ∧ Blk w' b12 40 (0, 0) (trC q2 ((1 : Nat) : Int))
  have hSk : ∀ {w w'}, S w → Kp No w w' → S w' := fun h k => ⟨h.1.kp k fun h => h, h.2.kp k fun h => h⟩
  have hS : S w19.drew := hSk (w := w19) ⟨B11f, B12f⟩ kd20
  refine At_draw S rfl ?_
  (apply AtH_take 0 rfl (by decide +kernel) (by exact rfl); (focus (intro wx hx; skip; exact x_fieldAddrN rfl (by first | exact Nat.zero_add _ | exact Nat.add_zero _ | (simp only [Nat.reduceAdd] <;> rfl) | exact rfl))); (focus (exact hS)))
  (apply AtH_take 1 rfl (by decide +kernel) (by exact rfl); (focus (intro wx hx; skip; exact x_fieldAddrN rfl (by first | exact Nat.zero_add _ | exact Nat.add_zero _ | (simp only [Nat.reduceAdd] <;> rfl) | exact rfl))); (focus (exact hS)))
  (apply AtH_take 4 rfl (by decide +kernel) (by exact rfl); (focus (intro wx hx; skip; exact x_move (by conv => lhs; whnf))); (focus (exact hS)))
  (apply AtH_take 5 rfl (by decide +kernel) (by exact rfl); (focus (intro wx hx; skip; exact x_move (by conv => lhs; whnf))); (focus (exact hS)))
  (apply AtH_take 7 rfl (by decide +kernel) (by exact rfl); (focus (intro wx hx; skip; exact x_move (by conv => lhs; whnf))); (focus (exact hS)))
  -- ready now: 2 slice 36 t125 none none none, 6 build 58 [(Prod.mk 0 1:i64) (Prod.mk 1 0:i64)]
  refine AtH_take 2 rfl (by decide +kernel) (by exact rfl) (fun wx hx => x_slice_arr rfl) hS ?_
  refine AtH_take 3 rfl (by decide +kernel) (by exact rfl) (fun wx hx => x_conv_bs rfl (mac_sl hx.2 hq2w)) hS ?_
  refine AtH_take 6 rfl (by decide +kernel) (by exact rfl) (fun wx hx => x_build rfl (built58 1 0)) hS ?_
  -- ready now: 8 call f27(t128, t129, t130, t131)
  have K20 := K19.trans kd20
  refine AtH_call 8 rfl (by decide +kernel) (by exact rfl) x_call  (macR_calls key name 1 0 nb ak an cap cap2 _ ((hk.kpn K20).e (D := fun _ => True) fun _ _ => trivial) ((hn.kpn K20).e (D := fun _ => True) fun _ _ => trivial) ⟨by omega, by omega, by omega⟩ ⟨by omega, by omega⟩) ?_
  rintro _ w20 ⟨rfl, k20⟩
  have hS20 := hSk hS k20
  refine ⟨_, rfl, hS20, ?_⟩
  clear hS
  have hS := hS20
  refine AtH_val 9 rfl (by decide +kernel) (by exact rfl) (x_eql_str rfl rfl) hS ?_
  rw [show decide (q2.mac = macB key name 1 0 nb) = true from decide_eq_true (by rw [hq2, hnb])]
  (apply AtH_take 10 rfl (by decide +kernel) (by exact rfl); (focus (intro wx hx; skip; exact x_move (by conv => lhs; whnf))); (focus (exact hS)))
  -- ready now: 11 load 38 t11, 14 load 38 t11
  refine AtH_take 11 rfl (by decide +kernel) (by exact ⟨_, _, rfl, by decide, rfl, rfl⟩) (fun wx hx => x_load_all rfl hx.1 hr33) hS ?_
  refine AtH_take 14 rfl (by decide +kernel) (by exact ⟨_, _, rfl, by decide, rfl, rfl⟩) (fun wx hx => x_load_all rfl hx.1 hr33) hS ?_
  refine AtH_call 12 rfl (by decide +kernel) (by exact ⟨_, _, rfl, by decide, rfl, rfl⟩) x_call  (pack_calls r _ hrw) ?_
  rintro _ w21 ⟨ap, cp, rfl, hop, hfp, k21⟩
  have hS21 := hSk hS k21
  refine ⟨_, rfl, hS21, ?_⟩
  let S2 : World → Prop := fun w' => S w' ∧ Own w' 5 1 ap 36 cp (ints .u8 (bs8 (packB r)))
  refine AtH_more S2 (fun _ h => h.1) ?_
  clear hS
  have hS : S2 w21 := ⟨hS21, hop⟩
  refine AtH_take 13 rfl (by decide +kernel) (by exact ⟨_, _, rfl, by decide, rfl, rfl⟩) (fun wx hx => x_conv_bs rfl (hx.2.sl.e (D := fun _ => True) fun _ _ => trivial)) hS ?_
  refine AtH_call 15 rfl (by decide +kernel) (by exact ⟨_, _, rfl, by decide, rfl, rfl⟩) x_call  (packR_calls r _ hrw) ?_
  rintro _ w22 ⟨rfl, k22⟩
  have hS22 : S2 w22 := ⟨hSk hS.1 k22, hS.2.kp k22 fun _ _ h => h⟩
  refine ⟨_, rfl, hS22, ?_⟩
  clear hS
  have hS := hS22
  refine AtH_val 16 rfl (by decide +kernel) (by exact ⟨_, _, rfl, by decide, rfl, rfl⟩) (x_eql_str rfl rfl) hS ?_
  rw [show decide (packB r = packB r) = true from decide_eq_true rfl]
  (apply AtH_take 17 rfl (by decide +kernel) (by exact rfl); (focus (intro wx hx; skip; exact x_pick_t rfl (by conv => lhs; whnf))); (focus (exact hS)))
  (apply AtH_take 18 rfl (by decide +kernel) (by exact rfl); (focus (intro wx hx; skip; exact x_assign (by conv => lhs; whnf))); (focus (exact hS)))
  refine AtH_done (by decide +kernel) ?_
  skip
  refine At_ret1 Tryd.func4 rfl (by conv => lhs; whnf) ?_
  exact ⟨rfl, Kp.below (((K20.trans k20).trans k21).trans k22)⟩
end Go.Proofs.YtfngacepjcdlnaaDoor

namespace Go.Mt
open Go Go.Kx Go.Proofs.YtfngacepjcdlnaaDoor
theorem octs_all {xs : List Int} (h : ∀ x ∈ xs, (Lit.int .u8 x).wf = true) : ∃ l : List UInt8, xs = bs8 l := by
  refine ⟨xs.map fun x => UInt8.ofNat x.toNat, ?_⟩
  apply List.ext_getElem (by simp)
  intro i h1 h2
  have hb := wf_bounds (h _ (List.getElem_mem h1))
  have m1 : IntKind.u8.min = 0 := rfl
  have m2 : IntKind.u8.max = 255 := rfl
  rw [m1, m2] at hb
  simp only [bs8, List.map_map, List.getElem_map, Function.comp, ub]
  rw [UInt8.toNat_ofNat']
  omega
theorem oct_one {x : Int} (h : (Lit.int .u8 x).wf = true) : ∃ u : UInt8, x = ub u := by
  obtain ⟨l, e⟩ := octs_all (xs := [x]) (by simpa using h)
  match l, e with
  | [], e => cases e
  | [u], e => exact ⟨u, List.cons.inj e |>.1⟩
  | _ :: _ :: _, e => cases e
end Go.Mt
namespace Go.Proofs.YtfngacepjcdlnaaDoor
open Go Go.Kx Go.Kr Go.Mt
theorem seals_in (W : World) (hC : ∃ fz, Blk W 1 243 fz (ints .u64 (ws kSha))) (a : Option Addr) (len cap : Nat) (z : List Int) (hk : Sl W .u8 a len cap z) (hz : ∀ x ∈ z, (Lit.int .u8 x).wf = true) (a2 : Option Addr) (len2 cap2 : Nat) (z2 : List Int) (hn : Sl W .u8 a2 len2 cap2 z2) (hz2 : ∀ x ∈ z2, (Lit.int .u8 x).wf = true) (c : Int) (hc : (Lit.int .u8 c).wf = true) :
    Calls Tryd.prog 4 #[.slice a len cap, .slice a2 len2 cap2, .int .u8 c] W fun e w' => e = .returned (.bool true) ∧ RowKit.Below W.heap.size W w' := by
  obtain ⟨key, rfl⟩ := octs_all hz
  obtain ⟨name, rfl⟩ := octs_all hz2
  obtain ⟨u, rfl⟩ := oct_one hc
  exact seals_row W hC key a len cap hk name a2 len2 cap2 hn u
end Go.Proofs.YtfngacepjcdlnaaDoor
