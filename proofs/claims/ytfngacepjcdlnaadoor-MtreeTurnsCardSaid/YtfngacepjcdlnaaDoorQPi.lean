/- Trees: wrong arguments; an empty tree cut. -/
import Derived.Test.YtfngacepjcdlnaaDoorQMh
import Derived.Test.YtfngacepjcdlnaaDoorQMi
set_option linter.unusedVariables false
namespace Go.Kx
open Go
theorem x_eql_nil_iface {P : Program} {n : Nat} {env : Env} {w : World} {dst : Option Tmp} {ty : TypeId} {pos : String} {aft : Array Edge} {g : Option (Nat × Bool)} {x : Operand} {T T' : TypeId} (hT : ∃ m, P.underlying T = some (.interface m)) (hx : ev n env x = .nilIface) :
  Run P n env ⟨dst, .binOp .eql T x (.const .nilIface) T', ty, pos, aft, g⟩ w (.ok (.value (.bool true)) w) := by
 obtain ⟨m, hm⟩ := hT
 obtain ⟨k, hk⟩ : ∃ k, Op.maxDepth = k + 1 := ⟨Op.maxDepth - 1, by decide⟩
 unfold Run
 simp [execOp, hx, show ev n env (.const .nilIface) = .nilIface from rfl, eqGuard, binOp, run_underlying hm, Op.equal, hk, Op.equalIn]
end Go.Kx
namespace Go.Proofs.YtfngacepjcdlnaaDoor
open Go Go.Kx Go.Kr Go.Mt
theorem trC_one (r : Pr) (d : Int) : (trC r d).all (·.oneCell') = true := by unfold trC; rw [List.all_append, prC_one]; rfl
set_option maxRecDepth 100000 in
set_option maxHeartbeats 4000000 in
theorem new_nil_calls (v : Value) (x2 x3 : Value) (w : World) :
  Calls Tryd.prog 49 #[.nilIface, v, x2, x3] w fun e w' => e = .returned (.tuple #[.pointer none, .int .i64 1]) ∧ w = w' := by
 refine calls_at (n := 29) Tryd.func49 rfl rfl (by simp) ?_
 (refine At_seq (At_region ?_); refine s_as ?_; refine s_as ?_; refine AtR_nil (At_seq (At_block (At_seq (At_region ?_)))); refine s_mv ?_)
 refine s_val (x_eql_nil_iface ⟨_, Tryd.underlying169⟩ rfl) ?_
 (refine s_mv ?_; refine s_no rfl rfl rfl rfl ?_; refine s_no rfl rfl rfl rfl ?_; refine s_pt ?_; refine s_as ?_; refine AtR_nil ?_; refine At_cond_t rfl ?_; refine At_seq (At_region ?_); refine s_as ?_; refine s_as ?_; refine AtR_nil ?_)
 refine At_ret2 Tryd.func49 rfl (by conv => lhs; whnf) (by conv => lhs; whnf) ?_
 exact ⟨rfl, rfl⟩
set_option maxRecDepth 100000 in
set_option maxHeartbeats 4000000 in
theorem new_nil2_calls (sp : Nat) (x2 x3 : Value) (w : World) :
  Calls Tryd.prog 49 #[.iface 47 (.pointer (some ⟨sp, 0, none⟩)), .pointer none, x2, x3] w fun e w' => e = .returned (.tuple #[.pointer none, .int .i64 1]) ∧ w = w' := by
 refine calls_at (n := 29) Tryd.func49 rfl rfl (by simp) ?_
 (refine At_seq (At_region ?_); refine s_as ?_; refine s_as ?_; refine AtR_nil (At_seq (At_block (At_seq (At_region ?_)))); refine s_mv ?_)
 refine s_val (x_eql_iface_nil ⟨_, Tryd.underlying169⟩ (by kernel_rfl) rfl rfl) ?_
 (refine s_mv ?_; refine s_yes rfl rfl rfl rfl ?_; refine g_mv ?_; refine s_yes rfl rfl rfl rfl ?_; refine g_eqln ?_; refine s_pf ?_; refine s_as ?_; refine AtR_nil ?_; refine At_cond_t rfl ?_; refine At_seq (At_region ?_); refine s_as ?_; refine s_as ?_; refine AtR_nil ?_)
 refine At_ret2 Tryd.func49 rfl (by conv => lhs; whnf) (by conv => lhs; whnf) ?_
 exact ⟨rfl, rfl⟩
set_option maxRecDepth 100000 in
set_option maxHeartbeats 4000000 in
theorem new_long_calls (sp bo : Nat) (x2 : Value) (an : Option Addr) (ln cn : Nat) (w : World) (h : 256 < ln) (h2 : ln ≤ 100000) :
  Calls Tryd.prog 49 #[.iface 47 (.pointer (some ⟨sp, 0, none⟩)), .pointer (some ⟨bo, 0, none⟩), x2, .slice an ln cn] w fun e w' => e = .returned (.tuple #[.pointer none, .int .i64 2]) ∧ w = w' := by
 refine calls_at (n := 29) Tryd.func49 rfl rfl (by simp) ?_
 (refine At_seq (At_region ?_); refine s_as ?_; refine s_as ?_; refine AtR_nil (At_seq (At_block (At_seq (At_region ?_)))); refine s_mv ?_)
 refine s_val (x_eql_iface_nil ⟨_, Tryd.underlying169⟩ (by kernel_rfl) rfl rfl) ?_
 (refine s_mv ?_; refine s_yes rfl rfl rfl rfl ?_; refine g_mv ?_; refine s_yes rfl rfl rfl rfl ?_; refine g_eqlp ?_; refine s_pf ?_; refine s_as ?_; refine AtR_nil ?_; refine At_cond_f rfl ?_; refine At_seq (At_region ?_); refine s_mv ?_; refine s_ln ?_; refine s_gtr ?_; refine s_as ?_; refine AtR_nil ?_; refine At_cond_t rfl ?_; refine At_seq (At_region ?_); refine s_as ?_; refine s_as ?_; refine AtR_nil ?_)
 refine At_ret2 Tryd.func49 rfl (by conv => lhs; whnf) (by conv => lhs; whnf) ?_
 exact ⟨rfl, rfl⟩
set_option maxRecDepth 100000 in
set_option maxHeartbeats 16000000 in
theorem Put_wrong (G : Value) (r : Pr) (d i : Int) (a : Option Addr) (len cap : Nat) (w : World) (hr : r.wf) (hi : -9223372036854775808 ≤ i ∧ i ≤ 9223372036854775807) (hlen : len ≤ 1000000) (hb : ¬ (0 ≤ d ∧ d ≤ 5) ∨ i < 0 ∨ 537824 ≤ i ∨ len ≠ 512) :
  Calls Tryd.prog 25 #[G, .agg (trC r d).toArray, .int .i64 i, .slice a len cap] w fun e w' => e = .returned (.tuple #[.agg (trC Pr.zero 0).toArray, .int .i64 2]) ∧ Kp No w w' := by
 refine calls_at (n := 61) Tryd.func25 rfl rfl (by simp) ?_
 have hl34 := trC_length hr d
 (refine At_seq (At_region ?_))
 refine AtR_go rfl (AtG_box rfl fun b5 w1 hb5 e1 => ?_)
 have B5 : Blk w1 b5 40 (0, 0) (trC r d) := e1.blk
 have k1 : Kp No w w1 := e1.kp (.inr (by omega))
 clear e1
 refine AtR_go rfl (AtG_alloc fun b8 w2 hb8 e2 => ?_)
 have B8 : Blk w2 b8 40 (0, 0) z40 := e2.blk
 have k2 : Kp No w1 w2 := e2.kp (.inr (by omega))
 have z1 := k1.size
 clear e2
 replace B5 := B5.kp k2 fun h => h
 (refine s_as ?_; refine AtR_nil (At_seq (At_seq ?_)); refine At_region ?_)
 refine s_val (x_load_all rfl B5 hl34) ?_
 refine s_call x_call (right_calls r d _ hr) ?_
 rintro _ w3 ⟨rfl, k3⟩
 refine ⟨_, rfl, ?_⟩
 have B8a := B8.kp k3 fun h => h
 have K3 := (k1.trans k2).trans k3
 have fin : ∀ {w6 : World}, Eff w3 w6 b8 (.cells (trC Pr.zero 0).toArray 40 (0, 0)) → Kp No w w6 := fun {w6} e => K3.trans' (e.kp (S := fun j => j = b8) (.inl rfl)) (by rintro j rfl; right; omega)
 by_cases h5 : 0 ≤ d ∧ d ≤ 5
 rotate_left
 ·rw [decide_eq_false h5]
  (refine s_nt ?_; refine s_mv ?_; refine s_no rfl rfl rfl rfl ?_; refine s_no rfl rfl rfl rfl ?_; refine s_pt ?_; refine s_mv ?_; refine s_no rfl rfl rfl rfl ?_; refine s_no rfl rfl rfl rfl ?_; refine s_no rfl rfl rfl rfl ?_; refine s_pt ?_; refine s_mv ?_; refine s_no rfl rfl rfl rfl ?_; refine s_no rfl rfl rfl rfl ?_; refine s_no rfl rfl rfl rfl ?_; refine s_pt ?_; refine AtR_nil ?_; refine At_cond_t rfl ?_; refine At_seq (At_region ?_))
  refine s_val (x_build (by first | rfl | exact rfl) built40_nil) ?_
  refine AtR_go rfl (G_skip (r_store_all (s := 34) (vs := trC Pr.zero 0) rfl rfl B8a rfl rfl rfl) fun w6 e6 => ?_)
  (refine s_as ?_; refine AtR_nil ?_)
  exact At_ret_cell2 (s := 34) Tryd.func25 rfl rfl e6.blk rfl rfl ⟨rfl, fin e6⟩
 rw [decide_eq_true h5]
 by_cases h0 : i < 0
 ·(refine s_nt ?_; refine s_mv ?_; refine s_yes rfl rfl rfl rfl ?_; refine g_mv ?_; refine s_yes rfl rfl rfl rfl ?_; refine g_lss ?_; refine s_pf ?_; refine s_mv ?_; refine s_no rfl rfl rfl rfl ?_; refine s_no rfl rfl rfl rfl ?_; refine s_no rfl rfl rfl rfl ?_; refine s_pt ?_; refine s_mv ?_; refine s_no rfl rfl rfl rfl ?_; refine s_no rfl rfl rfl rfl ?_; refine s_no rfl rfl rfl rfl ?_; refine s_pt ?_; refine AtR_nil ?_; refine At_cond_t rfl ?_; refine At_seq (At_region ?_))
  refine s_val (x_build (by first | rfl | exact rfl) built40_nil) ?_
  refine AtR_go rfl (G_skip (r_store_all (s := 34) (vs := trC Pr.zero 0) rfl rfl B8a rfl rfl rfl) fun w6 e6 => ?_)
  (refine s_as ?_; refine AtR_nil ?_)
  exact At_ret_cell2 (s := 34) Tryd.func25 rfl rfl e6.blk rfl rfl ⟨rfl, fin e6⟩
 (refine s_nt ?_; refine s_mv ?_; refine s_yes rfl rfl rfl rfl ?_; refine g_mv ?_; refine s_yes rfl rfl rfl rfl ?_; refine g_lss ?_; refine s_pf ?_; refine s_mv ?_; refine s_yes rfl rfl rfl rfl ?_; refine g_mv ?_)
 refine s_yes rfl rfl rfl rfl ?_
 refine g_call x_call (room_calls 5 _ (by omega)) ?_
 rintro _ _ ⟨rfl, rfl⟩
 refine ⟨_, rfl, ?_⟩
 rw [show roomZ 5 = 537824 from rfl]
 by_cases hr5 : 537824 ≤ i
 ·(refine s_yes rfl rfl rfl rfl ?_; refine g_geq ?_; refine s_pf ?_; refine s_mv ?_; refine s_no rfl rfl rfl rfl ?_; refine s_no rfl rfl rfl rfl ?_; refine s_no rfl rfl rfl rfl ?_; refine s_pt ?_; refine AtR_nil ?_; refine At_cond_t rfl ?_; refine At_seq (At_region ?_))
  refine s_val (x_build (by first | rfl | exact rfl) built40_nil) ?_
  refine AtR_go rfl (G_skip (r_store_all (s := 34) (vs := trC Pr.zero 0) rfl rfl B8a rfl rfl rfl) fun w6 e6 => ?_)
  (refine s_as ?_; refine AtR_nil ?_)
  exact At_ret_cell2 (s := 34) Tryd.func25 rfl rfl e6.blk rfl rfl ⟨rfl, fin e6⟩
 have hl5 : len ≠ 512 := by omega
 (refine s_yes rfl rfl rfl rfl ?_; refine g_geq ?_; refine s_pf ?_; refine s_mv ?_; refine s_yes rfl rfl rfl rfl ?_; refine g_mv ?_; refine s_yes rfl rfl rfl rfl ?_; refine g_ln ?_; refine s_yes rfl rfl rfl rfl ?_; refine g_neq ?_; refine s_pf ?_; refine AtR_nil ?_; refine At_cond_t rfl ?_; refine At_seq (At_region ?_))
 refine s_val (x_build (by first | rfl | exact rfl) built40_nil) ?_
 refine AtR_go rfl (G_skip (r_store_all (s := 34) (vs := trC Pr.zero 0) rfl rfl B8a rfl rfl rfl) fun w6 e6 => ?_)
 (refine s_as ?_; refine AtR_nil ?_)
 exact At_ret_cell2 (s := 34) Tryd.func25 rfl rfl e6.blk rfl rfl ⟨rfl, fin e6⟩
set_option maxRecDepth 100000 in
set_option maxHeartbeats 16000000 in
theorem Cut_wrong (G : Value) (r : Pr) (d n : Int) (w : World) (hr : r.wf) (hb : ¬ (0 ≤ d ∧ d ≤ 5) ∨ n < 0) :
  Calls Tryd.prog 56 #[G, .agg (trC r d).toArray, .int .i64 n] w fun e w' => e = .returned (.tuple #[.agg (trC Pr.zero 0).toArray, .int .i64 2]) ∧ Kp No w w' := by
 refine calls_at (n := 42) Tryd.func56 rfl rfl (by simp) ?_
 have hl34 := trC_length hr d
 (refine At_seq (At_region ?_))
 refine AtR_go rfl (AtG_box rfl fun b4 w1 hb4 e1 => ?_)
 have B4 : Blk w1 b4 40 (0, 0) (trC r d) := e1.blk
 have k1 : Kp No w w1 := e1.kp (.inr (by omega))
 clear e1
 refine AtR_go rfl (AtG_alloc fun b6 w2 hb6 e2 => ?_)
 have B6 : Blk w2 b6 40 (0, 0) z40 := e2.blk
 have k2 : Kp No w1 w2 := e2.kp (.inr (by omega))
 have z1 := k1.size
 clear e2
 replace B4 := B4.kp k2 fun h => h
 (refine s_as ?_; refine AtR_nil (At_seq (At_seq ?_)); refine At_region ?_)
 refine s_val (x_load_all rfl B4 hl34) ?_
 refine s_call x_call (right_calls r d _ hr) ?_
 rintro _ w3 ⟨rfl, k3⟩
 refine ⟨_, rfl, ?_⟩
 have B6a := B6.kp k3 fun h => h
 have K3 := (k1.trans k2).trans k3
 have fin : ∀ {w6 : World}, Eff w3 w6 b6 (.cells (trC Pr.zero 0).toArray 40 (0, 0)) → Kp No w w6 := fun {w6} e => K3.trans' (e.kp (S := fun j => j = b6) (.inl rfl)) (by rintro j rfl; right; omega)
 by_cases h5 : 0 ≤ d ∧ d ≤ 5
 rotate_left
 ·rw [decide_eq_false h5]
  (refine s_nt ?_; refine s_mv ?_; refine s_no rfl rfl rfl rfl ?_; refine s_no rfl rfl rfl rfl ?_; refine s_pt ?_; refine AtR_nil ?_; refine At_cond_t rfl ?_; refine At_seq (At_region ?_))
  refine s_val (x_build (by first | rfl | exact rfl) built40_nil) ?_
  refine AtR_go rfl (G_skip (r_store_all (s := 34) (vs := trC Pr.zero 0) rfl rfl B6a rfl rfl rfl) fun w6 e6 => ?_)
  (refine s_as ?_; refine AtR_nil ?_)
  exact At_ret_cell2 (s := 34) Tryd.func56 rfl rfl e6.blk rfl rfl ⟨rfl, fin e6⟩
 rw [decide_eq_true h5]
 have h0 : n < 0 := by omega
 (refine s_nt ?_; refine s_mv ?_; refine s_yes rfl rfl rfl rfl ?_; refine g_mv ?_; refine s_yes rfl rfl rfl rfl ?_; refine g_lss ?_; refine s_pf ?_; refine AtR_nil ?_; refine At_cond_t rfl ?_; refine At_seq (At_region ?_))
 refine s_val (x_build (by first | rfl | exact rfl) built40_nil) ?_
 refine AtR_go rfl (G_skip (r_store_all (s := 34) (vs := trC Pr.zero 0) rfl rfl B6a rfl rfl rfl) fun w6 e6 => ?_)
 (refine s_as ?_; refine AtR_nil ?_)
 exact At_ret_cell2 (s := 34) Tryd.func56 rfl rfl e6.blk rfl rfl ⟨rfl, fin e6⟩
set_option maxRecDepth 100000 in
set_option maxHeartbeats 16000000 in
theorem cut0_calls (C : Value) (p : Pr) (lv fst : Nat) (n : Int) (w : World) (hp : p.wf) (h0 : p.sec = 0) :
  Calls Tryd.prog 92 #[C, .agg (prC p).toArray, .agg (spC lv fst).toArray, .int .i64 n] w fun e w' => e = .returned (.tuple #[.agg (prC p).toArray, .int .i64 0]) ∧ Kp No w w' := by
 refine calls_at (n := 87) Tryd.func92 rfl rfl (by simp) ?_
 have hp33 := prC_length hp
 (refine At_seq (At_region ?_))
 refine AtR_go rfl (AtG_box rfl fun b5 w1 hb5 e1 => ?_)
 have B5 : Blk w1 b5 38 (0, 0) (prC p) := e1.blk
 have k1 : Kp No w w1 := e1.kp (.inr (by omega))
 clear e1
 refine AtR_go rfl (AtG_box rfl fun b6 w2 hb6 e2 => ?_)
 have k2 : Kp No w1 w2 := e2.kp (.inr (by omega))
 clear e2
 refine AtR_go rfl (AtG_alloc fun b8 w3 hb8 e3 => ?_)
 have B8 : Blk w3 b8 38 (0, 0) z38 := e3.blk
 have k3 : Kp No w2 w3 := e3.kp (.inr (by omega))
 have z1 := k1.size
 have z2 := k2.size
 have B5a := B5.kp (k2.trans k3) fun h => h
 have K3 := (k1.trans k2).trans k3
 have l5 := (B5.kp k2 fun h => h).lt
 clear e3
 (refine s_as ?_; refine AtR_nil (At_seq (At_block ?_)); refine At_seq ?_)
 have kd := Kp.drew (S := No) (w := w3)
 let S : World → Prop := fun w' => Blk w' b5 38 (0, 0) (.int .i64 (p.sec : Int) :: ints .u8 (bs8 p.mac))
 have hS : S w3.drew := Blk.kp B5a kd fun h => h
 refine At_draw S rfl ?_
 (apply AtH_take 0 rfl (by decide +kernel) (by exact rfl); (focus (intro wx hx; skip; exact x_fieldAddrN rfl (by first | exact Nat.zero_add _ | exact Nat.add_zero _ | (simp only [Nat.reduceAdd] <;> rfl) | exact rfl))); (focus (exact hS)))
 refine AtH_take 1 rfl (by decide +kernel) (by exact rfl) (fun wx hx => x_load1 rfl hx rfl) hS ?_
 (apply AtH_bool 2 rfl (by decide +kernel) (by exact rfl); (focus (intro wx hx; skip; exact x_eql rfl rfl)); (focus (exact decide_eq_true (by omega))); (focus (exact hS)))
 (apply AtH_take 3 rfl (by decide +kernel) (by exact rfl); (focus (intro wx hx; skip; exact x_move (by conv => lhs; whnf))); (focus (exact hS)))
 refine AtH_no 4 rfl (by decide +kernel) (by exact ⟨_, _, rfl, by decide, rfl, rfl⟩) hS ?_
 refine AtH_no 5 rfl (by decide +kernel) (by exact ⟨_, _, rfl, by decide, rfl, rfl⟩) hS ?_
 refine AtH_no 6 rfl (by decide +kernel) (by exact ⟨_, _, rfl, by decide, rfl, rfl⟩) hS ?_
 refine AtH_no 7 rfl (by decide +kernel) (by exact ⟨_, _, rfl, by decide, rfl, rfl⟩) hS ?_
 refine AtH_no 8 rfl (by decide +kernel) (by exact ⟨_, _, rfl, by decide, rfl, rfl⟩) hS ?_
 refine AtH_no 9 rfl (by decide +kernel) (by exact ⟨_, _, rfl, by decide, rfl, rfl⟩) hS ?_
 refine AtH_no 10 rfl (by decide +kernel) (by exact ⟨_, _, rfl, by decide, rfl, rfl⟩) hS ?_
 refine AtH_no 11 rfl (by decide +kernel) (by exact ⟨_, _, rfl, by decide, rfl, rfl⟩) hS ?_
 (apply AtH_take 12 rfl (by decide +kernel) (by exact rfl); (focus (intro wx hx; skip; exact x_pick_t rfl (by conv => lhs; whnf))); (focus (exact hS)))
 (apply AtH_take 13 rfl (by decide +kernel) (by exact rfl); (focus (intro wx hx; skip; exact x_assign (by conv => lhs; whnf))); (focus (exact hS)))
 refine AtH_done (by decide +kernel) ?_
 have K4 := K3.trans kd
 have B5b := B5a.kp kd fun h => h
 have B8b := B8.kp kd fun h => h
 (refine At_cond_t rfl ?_; refine At_seq (At_region ?_))
 refine s_val (x_load_all rfl B5b hp33) ?_
 refine AtR_go rfl (G_skip (r_store_all (s := 33) (vs := prC p) rfl rfl B8b hp33 rfl (prC_one _)) fun w6 e6 => ?_)
 (refine s_as ?_; refine AtR_nil ?_)
 exact At_ret_cell2 (s := 33) Tryd.func92 rfl rfl e6.blk hp33 rfl ⟨rfl, K4.trans' (e6.kp (S := fun j => j = b8) (.inl rfl)) (by rintro j rfl; right; omega)⟩
theorem built40_rd {r : Pr} (h : r.wf) (d : Int) : Tryd.prog.built 40 [(0, .agg (prC r).toArray), (1, .int .i64 d)] = some (trC r d).toArray := by
 have hb : ∀ v, Tryd.prog.built 40 v = Instr.fill (#[(0, 33), (33, 1)][·]?) z40.toArray v := fun v => by kernel_rfl
 have hz : z40.length = 34 := rfl
 have hp := prC_length h
 rw [hb, fill_agg (i := 0) (off := 0) (s := 33) rfl hp (by omega)]
 rw [show z40 = trC Pr.zero 0 from rfl, trC_lay zero_wf h 0, fill_val (i := 1) (off := 33) rfl rfl (by rw [trC_length h]; omega), trC_set h]
 rfl
set_option maxRecDepth 100000 in
set_option maxHeartbeats 16000000 in
theorem Cut_zero (g sp bo : Nat) (key name : List UInt8) (st : St) (r : Pr) (d n : Nat) (w : World) {Ds Dg : Nat → Prop} (h : Wood w g sp bo key name st Ds Dg) (hr : r.wf) (hr0 : r.sec = 0) (hd : d ≤ 5) (hn : n < 9223372036854775808) :
  Calls Tryd.prog 56 #[.pointer (some ⟨g, 0, none⟩), .agg (trC r (d : Int)).toArray, .int .i64 (n : Int)] w fun e w' => e = .returned (.tuple #[.agg (trC r (d : Int)).toArray, .int .i64 0]) ∧ StAt w' sp st Ds ∧ Kp Ds w w' := by
 refine calls_at (n := 42) Tryd.func56 rfl rfl (by simp) ?_
 have hl34 := trC_length hr (d : Int)
 have hr33 := prC_length hr
 have hgs := h.sep
 (refine At_seq (At_region ?_))
 refine AtR_go rfl (AtG_box rfl fun b4 w1 hb4 e1 => ?_)
 have B4 : Blk w1 b4 40 (0, 0) (trC r (d : Int)) := e1.blk
 have k1 : Kp No w w1 := e1.kp (.inr (by omega))
 clear e1
 refine AtR_go rfl (AtG_alloc fun b6 w2 hb6 e2 => ?_)
 have B6 : Blk w2 b6 40 (0, 0) z40 := e2.blk
 have k2 : Kp No w1 w2 := e2.kp (.inr (by omega))
 have z1 := k1.size
 have z2 := k2.size
 have l4 := B4.lt
 clear e2
 replace B4 := B4.kp k2 fun h => h
 (refine s_as ?_; refine AtR_nil (At_seq (At_seq ?_)); refine At_region ?_)
 refine s_val (x_load_all rfl B4 hl34) ?_
 refine s_call x_call (right_calls r (d : Int) _ hr) ?_
 rintro _ w3 ⟨rfl, k3⟩
 refine ⟨_, rfl, ?_⟩
 rw [decide_eq_true (⟨by omega, by omega⟩ : 0 ≤ (d : Int) ∧ (d : Int) ≤ 5)]
 have hdeep := trC_deep hr (d : Int)
 have l6 := B6.lt
 (refine s_nt ?_; refine s_mv ?_; refine s_yes rfl rfl rfl rfl ?_; refine g_mv ?_; refine s_yes rfl rfl rfl rfl ?_; refine g_lss ?_; refine s_pf ?_; refine AtR_nil ?_; refine At_cond_f rfl ?_; refine At_skip (At_seq (At_region ?_)); refine s_mv ?_)
 refine s_val (x_build rfl (built149 g)) ?_
 refine AtR_go rfl (AtG_box rfl fun c w4 hc4 e4 => ?_)
 have C4 : Blk w4 c 149 (0, 0) [.pointer (some ⟨g, 0, none⟩), .slice none 0 0, .slice none 0 0] := e4.blk
 have k4 : Kp No w3 w4 := e4.kp (.inr (by omega))
 have K4 := ((k1.trans k2).trans k3).trans k4
 have zK4 := K4.size
 have z3 := k3.size
 clear e4
 have B4a := B4.kp (k3.trans k4) fun h => h
 have B6a := B6.kp (k3.trans k4) fun h => h
 (refine s_as ?_; refine AtR_nil (At_seq (At_region ?_)); refine s_mv ?_; refine s_fa ?_)
 refine s_val (x_load_segN rfl (trC_seg B4a) hr33) ?_
 (refine s_fa ?_)
 refine s_val (x_load1 rfl B4a hdeep) ?_
 refine s_val (x_build rfl (built153 (d : Int) 0)) ?_
 (refine s_mv ?_)
 refine s_call x_call (cut0_calls _ r d 0 (n : Int) _ hr hr0) ?_
 rintro _ w5 ⟨rfl, k5⟩
 refine ⟨_, rfl, ?_⟩
 (refine s_mv ?_; refine s_ex ?_; refine s_ex ?_)
 refine AtR_go rfl (AtG_alloc fun b9 w6 hb9 e6 => ?_)
 refine AtR_go rfl (G_skip (r_store_all (s := 33) (vs := prC r) rfl rfl e6.blk hr33 rfl (prC_one _)) fun w7 e7 => ?_)
 have B9 : Blk w7 b9 38 (0, 0) (prC r) := e7.blk
 have k7 : Kp No w5 w7 := (e6.kp (S := No) (.inr (by omega))).trans' (e7.kp (S := fun j => j = b9) (.inl rfl)) (by rintro j rfl; right; omega)
 have kk := k5.trans k7
 have zkk := kk.size
 have B4b := B4a.kp kk fun h => h
 have B6b := B6a.kp kk fun h => h
 have C7 := C4.kp kk fun h => h
 have K7 := K4.trans kk
 clear e6 e7
 have lc := C4.lt
 have hch : ChAt w7 c g sp bo key name ⟨st, [], []⟩ Ds (fun j => j = c) Dg := by
  refine ⟨h.gr.kpn K7, h.stt.kpn K7, ⟨none, 0, none, 0, C7, Own.nil _ _ _, Own.nil _ _ _, fun j hj => by simp [blkOf] at hj, fun j hj => by simp [blkOf] at hj, fun j hj => by simp [blkOf] at hj⟩, rfl, ?_, ?_, ?_, ?_⟩
  ·rintro j hj rfl; have := h.stt.dlt _ hj; omega
  ·refine fun j hj => ⟨(hgs j hj).1, ?_⟩
   rintro rfl; have := (hgs _ hj).2; omega
  ·rintro j rfl; exact C7.lt
  ·exact fun j hj => Nat.lt_of_lt_of_le (hgs j hj).2 K7.size
 (refine s_as ?_; refine AtR_nil (At_seq (At_region ?_)); refine s_mv ?_)
 refine s_val (x_load_all rfl B9 hr33) ?_
 (refine s_fa ?_)
 refine s_val (x_load1 rfl B4b hdeep) ?_
 refine s_val (x_build (by first | rfl | exact rfl) (built40_rd hr (d : Int))) ?_
 (refine s_mv ?_)
 refine s_call x_call (end_calls c g sp bo key name ⟨st, [], []⟩ r (d : Int) 0 _ hch hr ⟨(fun n hn => by cases hn), (fun n hn => by cases hn)⟩) ?_
 rintro _ w8 ⟨rfl, hst8, k8⟩
 refine ⟨_, rfl, ?_⟩
 have hn6 : ¬ (Ds b6 ∨ b6 = c) := fun hd => hd.elim (fun h1 => by have := h.stt.dlt _ h1; omega) (fun h1 => by omega)
 have B6c := B6b.kp k8 hn6
 (refine s_ex ?_; refine s_ex ?_)
 refine AtR_go rfl (G_skip (r_store_all (s := 34) (vs := trC r (d : Int)) (by first | rfl | exact rfl) (by first | rfl | exact rfl) B6c hl34 rfl (trC_one _ _)) fun w9 e9 => ?_)
 (refine s_as ?_; refine AtR_nil ?_)
 have k9 : Kp (fun j => j = b6) w8 w9 := e9.kp (.inl rfl)
 refine At_ret_cell2 (s := 34) Tryd.func56 rfl rfl e9.blk hl34 rfl ⟨rfl, StAt.kp hst8 k9 (by rintro j hj rfl; exact hn6 (.inl hj)), ?_⟩
 have hK8 : Kp (fun j => Ds j ∨ w.heap.size ≤ j) w w8 := (K7.mono fun _ h => h.elim).trans (k8.mono fun j hj => hj.imp id fun h => by omega)
 exact Kp.trans' (Kp.refl Ds w) (hK8.trans' k9 (by rintro j rfl; right; omega)) fun j hj => hj
end Go.Proofs.YtfngacepjcdlnaaDoor
