/- The document's Same: walked. -/
import Derived.Test.YtgobmphkakmdmaaDoorUm
import Derived.Test.YtgobmphkakmdmaaDoorUq
set_option linter.unusedVariables false
namespace Go.Proofs.YtgobmphkakmdmaaDoor
open Go Go.Kx Go.Sc
/-- Two deeds are the same. -/
def sameB (x y : DeedC) : Bool := decide (x.keep = y.keep) && decide (x.kind = y.kind ∧ x.n = y.n ∧ x.m = y.m ∧ x.k = y.k ∧ x.path = y.path ∧ x.as_ = y.as_ ∧ x.b = y.b)
--@def SAME := 11
theorem sle_get {w : World} {a : Option Addr} {len cap : Nat} {xs : List Int} {D : Nat → Prop} (h : SlE w .i64 a len cap xs D) (h0 : 0 < len) : ∃ b off, a = some ⟨b, off, none⟩ ∧ b < w.heap.size ∧ Seg w b off (ints .i64 xs) := by
  have := h.le
  rcases h.mem with hc | ⟨b, off, rfl, hb, _, hs⟩
  · omega
  · exact ⟨b, off, rfl, hb, hs⟩
theorem keep_ne {xs ys : List Int} {i : Nat} (hl : xs.length = ys.length) (hi : i < xs.length) (h : xs.getD i 0 ≠ ys.getD i 0) : xs ≠ ys := fun e => h (by rw [e])
theorem keep_eq {xs ys : List Int} (hl : xs.length = ys.length) (h : ∀ j, j < xs.length → xs.getD j 0 = ys.getD j 0) : xs = ys := by
  apply List.ext_getElem hl
  intro i h1 h2
  have := h i h1
  simpa [List.getD, h1, h2] using this
set_option maxRecDepth 100000 in
set_option maxHeartbeats 4000000 in
theorem same_calls (x y : DeedC) (w : World) {D D' : Nat → Prop} (hx : DOk w x D) (hy : DOk w y D') (hl : x.keep.length ≤ 1000000) :
    Calls Tryd.prog 11 #[.agg (dC x).toArray, .agg (dC y).toArray] w fun e w' => e = .returned (.bool (sameB x y)) ∧ Kp No w w' := by
  refine calls_at (n := 80) Tryd.func11 rfl rfl (by simp) ?_
  (refine At_seq ?_; refine At_region ?_)
  refine AtR_go rfl (G_val (r_box rfl) ?_)
  rintro _ w1 ⟨b1, rfl, hb1, e1⟩
  have k1 : Kp No w w1 := e1.kp (.inr (by omega))
  have B1 : Blk w1 b1 32 (0, 0) (dC x) := e1.blk
  clear e1
  refine AtR_go rfl (G_val (r_box rfl) ?_)
  rintro _ w2 ⟨b2, rfl, hb2, e2⟩
  have k2 : Kp No w1 w2 := e2.kp (.inr (by omega))
  have B2 : Blk w2 b2 32 (0, 0) (dC y) := e2.blk
  clear e2
  replace B1 := B1.kp k2 fun h => h
  have K2 := k1.trans k2
  clear k1 k2
  by_cases hle : x.keep.length = y.keep.length
  rotate_left
  · (refine s_as ?_; refine AtR_nil ?_; refine At_seq ?_; refine At_seq ?_; refine At_region ?_; refine s_fa ?_; refine s_ld ?_; refine s_ln ?_; refine s_fa ?_; refine s_ld ?_; refine s_ln ?_; refine s_neq ?_; refine AtR_nil ?_; refine At_cond_t rfl ?_; refine At_seq ?_; refine At_region ?_; refine s_as ?_; refine AtR_nil ?_)
    refine At_ret1 Tryd.func11 rfl (by conv => lhs; whnf) ?_
    have : sameB x y = false := by unfold sameB; rw [decide_eq_false (fun h => hle (by rw [h])), Bool.false_and]
    rw [this]
    exact ⟨rfl, K2⟩
  (refine s_as ?_; refine AtR_nil ?_; refine At_seq ?_; refine At_seq ?_; refine At_region ?_; refine s_fa ?_; refine s_ld ?_; refine s_ln ?_; refine s_fa ?_; refine s_ld ?_; refine s_ln ?_; refine s_neq ?_; refine AtR_nil ?_; refine At_cond_f rfl ?_; refine At_skip ?_; refine At_seq ?_; refine At_seq ?_; refine At_region ?_; refine s_as ?_; refine AtR_nil ?_; refine At_block ?_)
  refine At_while (fun i : Nat => [(2, .pointer (some ⟨b1, 0, none⟩)), (3, .pointer (some ⟨b2, 0, none⟩)), (5, .int .i64 (i : Int))])
    (fun i w' => i ≤ x.keep.length ∧ (∀ j, j < i → x.keep.getD j 0 = y.keep.getD j 0) ∧ Kp No w2 w') (fun i => x.keep.length - i) 0 ⟨rfl, rfl, rfl, trivial⟩ ⟨by omega, fun j hj => by omega, .refl _ _⟩ ?_
  rintro i w3 junk ⟨hi, hok, k3⟩ again
  replace B1 := B1.kp k3 fun h => h
  replace B2 := B2.kp k3 fun h => h
  have K3 := K2.trans k3
  by_cases hlt : i < x.keep.length
  · obtain ⟨bx, ox, hax, hbx, hsx⟩ := sle_get (hx.keep.kpn K3) (by omega)
    obtain ⟨by_, oy, hay, hby, hsy⟩ := sle_get (hy.keep.kpn K3) (by omega)
    (refine At_seq ?_; refine At_seq ?_; refine At_region ?_; refine s_mv ?_; refine s_fa ?_; refine s_ld ?_; refine s_ln ?_; refine s_lss ?_; refine AtR_nil ?_; refine At_cond_t rfl ?_; refine At_skip ?_; refine At_seq ?_; refine At_block ?_; refine At_seq ?_)
    have kd := Kp.drew (S := No) (w := w3)
    let S : World → Prop := fun w' => Blk w' b1 32 (0, 0) (dC x) ∧ Blk w' b2 32 (0, 0) (dC y) ∧ Seg w' bx ox (ints .i64 x.keep) ∧ Seg w' by_ oy (ints .i64 y.keep)
    have hS : S w3.drew := ⟨B1.kp kd fun h => h, B2.kp kd fun h => h, hsx.kp kd (fun h => h) hbx, hsy.kp kd (fun h => h) hby⟩
    refine At_draw S rfl ?_
    (apply AtH_take 0 rfl (by decide +kernel) (by exact rfl); (focus (intro wx hx; skip; exact x_fieldAddrN rfl (by first | exact Nat.zero_add _ | exact Nat.add_zero _ | (simp only [Nat.reduceAdd] <;> rfl) | exact rfl))); (focus (exact hS)))
    (apply AtH_take 2 rfl (by decide +kernel) (by exact rfl); (focus (intro wx hx; skip; exact x_move (by conv => lhs; whnf))); (focus (exact hS)))
    (apply AtH_take 5 rfl (by decide +kernel) (by exact rfl); (focus (intro wx hx; skip; exact x_fieldAddrN rfl (by first | exact Nat.zero_add _ | exact Nat.add_zero _ | (simp only [Nat.reduceAdd] <;> rfl) | exact rfl))); (focus (exact hS)))
    (apply AtH_take 7 rfl (by decide +kernel) (by exact rfl); (focus (intro wx hx; skip; exact x_move (by conv => lhs; whnf))); (focus (exact hS)))
    -- ready now: 1 load 30 t20, 6 load 30 t25
    refine AtH_take 1 rfl (by decide +kernel) (by exact rfl) (fun wx hx => x_load1 rfl hx.1 rfl) hS ?_
    refine AtH_take 6 rfl (by decide +kernel) (by exact rfl) (fun wx hx => x_load1 rfl hx.2.1 rfl) hS ?_
    rw [hax, hay]
    refine AtH_take 3 rfl (by decide +kernel) (by exact rfl) (fun wx hx => x_indexAddrN1 (j := i) rfl rfl (by omega)) hS ?_
    refine AtH_take 8 rfl (by decide +kernel) (by exact rfl) (fun wx hx => x_indexAddrN1 (j := i) rfl rfl (by omega)) hS ?_
    refine AtH_take 4 rfl (by decide +kernel) (by exact rfl) (fun wx hx => x_load_ints rfl hx.2.2.1 (by omega)) hS ?_
    refine AtH_take 9 rfl (by decide +kernel) (by exact rfl) (fun wx hx => x_load_ints rfl hx.2.2.2 (by omega)) hS ?_
    by_cases he : x.keep.getD i 0 = y.keep.getD i 0
    · skip
      (apply AtH_bool 10 rfl (by decide +kernel) (by exact rfl); (focus (intro wx hx; skip; exact x_neq rfl rfl)); (focus (exact decide_eq_false (by omega))); (focus (exact hS)))
      refine AtH_done (by decide +kernel) ?_
      (refine At_cond_f rfl ?_; refine At_skip ?_; refine At_inBlock ?_; refine At_region ?_; refine s_mv ?_; refine s_ad ?_; refine s_as ?_; refine AtR_nil ?_)
      refine again (i + 1) _ _ ⟨rfl, rfl, rfl, trivial⟩ ⟨hlt, fun j hj => ?_, k3.trans kd⟩ (by omega)
      rcases Nat.lt_or_ge j i with h | h
      · exact hok j h
      · obtain rfl : j = i := by omega
        exact he
    · skip
      (apply AtH_bool 10 rfl (by decide +kernel) (by exact rfl); (focus (intro wx hx; skip; exact x_neq rfl rfl)); (focus (exact decide_eq_true (by omega))); (focus (exact hS)))
      refine AtH_done (by decide +kernel) ?_
      (refine At_cond_t rfl ?_; refine At_seq ?_; refine At_region ?_; refine s_as ?_; refine AtR_nil ?_)
      refine At_ret1 Tryd.func11 rfl (by conv => lhs; whnf) ?_
      have : sameB x y = false := by unfold sameB; rw [decide_eq_false (keep_ne hle hlt he), Bool.false_and]
      rw [this]
      exact ⟨rfl, K3.trans kd⟩
  · obtain rfl : i = x.keep.length := by omega
    have hke := keep_eq hle hok
    have hsb : ∀ b : Bool, decide (x.kind = y.kind ∧ x.n = y.n ∧ x.m = y.m ∧ x.k = y.k ∧ x.path = y.path ∧ x.as_ = y.as_ ∧ x.b = y.b) = b → sameB x y = b := fun b h => by unfold sameB; rw [decide_eq_true hke, Bool.true_and, h]
    have hxb := hx.b.kpn K3
    have hyb := hy.b.kpn K3
    clear again hok hke hx hy
    by_cases c1 : x.kind = y.kind
    rotate_left
    · (refine At_seq ?_; refine At_seq ?_; refine At_region ?_; refine s_mv ?_; refine s_fa ?_; refine s_ld ?_; refine s_ln ?_; refine s_lss ?_; refine AtR_nil ?_; refine At_cond_f rfl ?_; refine At_exit rfl ?_; refine At_seq ?_; refine At_region ?_; refine s_fa ?_; refine s_ld ?_; refine s_fa ?_; refine s_ld ?_; refine s_eql ?_; refine s_mv ?_; refine s_no rfl rfl rfl rfl ?_; refine s_no rfl rfl rfl rfl ?_; refine s_no rfl rfl rfl rfl ?_; refine s_no rfl rfl rfl rfl ?_; refine s_no rfl rfl rfl rfl ?_; refine s_pf ?_; refine s_mv ?_; refine s_no rfl rfl rfl rfl ?_; refine s_no rfl rfl rfl rfl ?_; refine s_no rfl rfl rfl rfl ?_; refine s_no rfl rfl rfl rfl ?_; refine s_no rfl rfl rfl rfl ?_; refine s_pf ?_; refine s_mv ?_; refine s_no rfl rfl rfl rfl ?_; refine s_no rfl rfl rfl rfl ?_; refine s_no rfl rfl rfl rfl ?_; refine s_no rfl rfl rfl rfl ?_; refine s_no rfl rfl rfl rfl ?_; refine s_pf ?_; refine s_mv ?_; refine s_no rfl rfl rfl rfl ?_; refine s_no rfl rfl rfl rfl ?_; refine s_no rfl rfl rfl rfl ?_; refine s_no rfl rfl rfl rfl ?_; refine s_no rfl rfl rfl rfl ?_; refine s_pf ?_; refine s_mv ?_; refine s_no rfl rfl rfl rfl ?_; refine s_no rfl rfl rfl rfl ?_; refine s_no rfl rfl rfl rfl ?_; refine s_no rfl rfl rfl rfl ?_; refine s_no rfl rfl rfl rfl ?_; refine s_pf ?_; refine s_mv ?_; refine s_no rfl rfl rfl rfl ?_; refine s_no rfl rfl rfl rfl ?_; refine s_no rfl rfl rfl rfl ?_; refine s_no rfl rfl rfl rfl ?_; refine s_no rfl rfl rfl rfl ?_; refine s_no rfl rfl rfl rfl ?_; refine s_no rfl rfl rfl rfl ?_; refine s_pf ?_; refine s_as ?_; refine AtR_nil ?_)
      refine At_ret1 Tryd.func11 rfl (by conv => lhs; whnf) ?_
      rw [hsb false (decide_eq_false fun h => c1 h.1)]
      exact ⟨rfl, K3⟩
    by_cases c2 : x.n = y.n
    rotate_left
    · (refine At_seq ?_; refine At_seq ?_; refine At_region ?_; refine s_mv ?_; refine s_fa ?_; refine s_ld ?_; refine s_ln ?_; refine s_lss ?_; refine AtR_nil ?_; refine At_cond_f rfl ?_; refine At_exit rfl ?_; refine At_seq ?_; refine At_region ?_; refine s_fa ?_; refine s_ld ?_; refine s_fa ?_; refine s_ld ?_; refine s_eql ?_; refine s_mv ?_; refine s_yes rfl rfl rfl rfl ?_; refine g_fa ?_; refine s_yes rfl rfl rfl rfl ?_; refine g_ld ?_; refine s_yes rfl rfl rfl rfl ?_; refine g_fa ?_; refine s_yes rfl rfl rfl rfl ?_; refine g_ld ?_; refine s_yes rfl rfl rfl rfl ?_; refine g_eql ?_; refine s_pt ?_; refine s_mv ?_; refine s_no rfl rfl rfl rfl ?_; refine s_no rfl rfl rfl rfl ?_; refine s_no rfl rfl rfl rfl ?_; refine s_no rfl rfl rfl rfl ?_; refine s_no rfl rfl rfl rfl ?_; refine s_pf ?_; refine s_mv ?_; refine s_no rfl rfl rfl rfl ?_; refine s_no rfl rfl rfl rfl ?_; refine s_no rfl rfl rfl rfl ?_; refine s_no rfl rfl rfl rfl ?_; refine s_no rfl rfl rfl rfl ?_; refine s_pf ?_; refine s_mv ?_; refine s_no rfl rfl rfl rfl ?_; refine s_no rfl rfl rfl rfl ?_; refine s_no rfl rfl rfl rfl ?_; refine s_no rfl rfl rfl rfl ?_; refine s_no rfl rfl rfl rfl ?_; refine s_pf ?_; refine s_mv ?_; refine s_no rfl rfl rfl rfl ?_; refine s_no rfl rfl rfl rfl ?_; refine s_no rfl rfl rfl rfl ?_; refine s_no rfl rfl rfl rfl ?_; refine s_no rfl rfl rfl rfl ?_; refine s_pf ?_; refine s_mv ?_; refine s_no rfl rfl rfl rfl ?_; refine s_no rfl rfl rfl rfl ?_; refine s_no rfl rfl rfl rfl ?_; refine s_no rfl rfl rfl rfl ?_; refine s_no rfl rfl rfl rfl ?_; refine s_no rfl rfl rfl rfl ?_; refine s_no rfl rfl rfl rfl ?_; refine s_pf ?_; refine s_as ?_; refine AtR_nil ?_)
      refine At_ret1 Tryd.func11 rfl (by conv => lhs; whnf) ?_
      rw [hsb false (decide_eq_false fun h => c2 h.2.1)]
      exact ⟨rfl, K3⟩
    by_cases c3 : x.m = y.m
    rotate_left
    · (refine At_seq ?_; refine At_seq ?_; refine At_region ?_; refine s_mv ?_; refine s_fa ?_; refine s_ld ?_; refine s_ln ?_; refine s_lss ?_; refine AtR_nil ?_; refine At_cond_f rfl ?_; refine At_exit rfl ?_; refine At_seq ?_; refine At_region ?_; refine s_fa ?_; refine s_ld ?_; refine s_fa ?_; refine s_ld ?_; refine s_eql ?_; refine s_mv ?_; refine s_yes rfl rfl rfl rfl ?_; refine g_fa ?_; refine s_yes rfl rfl rfl rfl ?_; refine g_ld ?_; refine s_yes rfl rfl rfl rfl ?_; refine g_fa ?_; refine s_yes rfl rfl rfl rfl ?_; refine g_ld ?_; refine s_yes rfl rfl rfl rfl ?_; refine g_eql ?_; refine s_pt ?_; refine s_mv ?_; refine s_yes rfl rfl rfl rfl ?_; refine g_fa ?_; refine s_yes rfl rfl rfl rfl ?_; refine g_ld ?_; refine s_yes rfl rfl rfl rfl ?_; refine g_fa ?_; refine s_yes rfl rfl rfl rfl ?_; refine g_ld ?_; refine s_yes rfl rfl rfl rfl ?_; refine g_eql ?_; refine s_pt ?_; refine s_mv ?_; refine s_no rfl rfl rfl rfl ?_; refine s_no rfl rfl rfl rfl ?_; refine s_no rfl rfl rfl rfl ?_; refine s_no rfl rfl rfl rfl ?_; refine s_no rfl rfl rfl rfl ?_; refine s_pf ?_; refine s_mv ?_; refine s_no rfl rfl rfl rfl ?_; refine s_no rfl rfl rfl rfl ?_; refine s_no rfl rfl rfl rfl ?_; refine s_no rfl rfl rfl rfl ?_; refine s_no rfl rfl rfl rfl ?_; refine s_pf ?_; refine s_mv ?_; refine s_no rfl rfl rfl rfl ?_; refine s_no rfl rfl rfl rfl ?_; refine s_no rfl rfl rfl rfl ?_; refine s_no rfl rfl rfl rfl ?_; refine s_no rfl rfl rfl rfl ?_; refine s_pf ?_; refine s_mv ?_; refine s_no rfl rfl rfl rfl ?_; refine s_no rfl rfl rfl rfl ?_; refine s_no rfl rfl rfl rfl ?_; refine s_no rfl rfl rfl rfl ?_; refine s_no rfl rfl rfl rfl ?_; refine s_no rfl rfl rfl rfl ?_; refine s_no rfl rfl rfl rfl ?_; refine s_pf ?_; refine s_as ?_; refine AtR_nil ?_)
      refine At_ret1 Tryd.func11 rfl (by conv => lhs; whnf) ?_
      rw [hsb false (decide_eq_false fun h => c3 h.2.2.1)]
      exact ⟨rfl, K3⟩
    by_cases c4 : x.k = y.k
    rotate_left
    · (refine At_seq ?_; refine At_seq ?_; refine At_region ?_; refine s_mv ?_; refine s_fa ?_; refine s_ld ?_; refine s_ln ?_; refine s_lss ?_; refine AtR_nil ?_; refine At_cond_f rfl ?_; refine At_exit rfl ?_; refine At_seq ?_; refine At_region ?_; refine s_fa ?_; refine s_ld ?_; refine s_fa ?_; refine s_ld ?_; refine s_eql ?_; refine s_mv ?_; refine s_yes rfl rfl rfl rfl ?_; refine g_fa ?_; refine s_yes rfl rfl rfl rfl ?_; refine g_ld ?_; refine s_yes rfl rfl rfl rfl ?_; refine g_fa ?_; refine s_yes rfl rfl rfl rfl ?_; refine g_ld ?_; refine s_yes rfl rfl rfl rfl ?_; refine g_eql ?_; refine s_pt ?_; refine s_mv ?_; refine s_yes rfl rfl rfl rfl ?_; refine g_fa ?_; refine s_yes rfl rfl rfl rfl ?_; refine g_ld ?_; refine s_yes rfl rfl rfl rfl ?_; refine g_fa ?_; refine s_yes rfl rfl rfl rfl ?_; refine g_ld ?_; refine s_yes rfl rfl rfl rfl ?_; refine g_eql ?_; refine s_pt ?_; refine s_mv ?_; refine s_yes rfl rfl rfl rfl ?_; refine g_fa ?_; refine s_yes rfl rfl rfl rfl ?_; refine g_ld ?_; refine s_yes rfl rfl rfl rfl ?_; refine g_fa ?_; refine s_yes rfl rfl rfl rfl ?_; refine g_ld ?_; refine s_yes rfl rfl rfl rfl ?_; refine g_eql ?_; refine s_pt ?_; refine s_mv ?_; refine s_no rfl rfl rfl rfl ?_; refine s_no rfl rfl rfl rfl ?_; refine s_no rfl rfl rfl rfl ?_; refine s_no rfl rfl rfl rfl ?_; refine s_no rfl rfl rfl rfl ?_; refine s_pf ?_; refine s_mv ?_; refine s_no rfl rfl rfl rfl ?_; refine s_no rfl rfl rfl rfl ?_; refine s_no rfl rfl rfl rfl ?_; refine s_no rfl rfl rfl rfl ?_; refine s_no rfl rfl rfl rfl ?_; refine s_pf ?_; refine s_mv ?_; refine s_no rfl rfl rfl rfl ?_; refine s_no rfl rfl rfl rfl ?_; refine s_no rfl rfl rfl rfl ?_; refine s_no rfl rfl rfl rfl ?_; refine s_no rfl rfl rfl rfl ?_; refine s_no rfl rfl rfl rfl ?_; refine s_no rfl rfl rfl rfl ?_; refine s_pf ?_; refine s_as ?_; refine AtR_nil ?_)
      refine At_ret1 Tryd.func11 rfl (by conv => lhs; whnf) ?_
      rw [hsb false (decide_eq_false fun h => c4 h.2.2.2.1)]
      exact ⟨rfl, K3⟩
    (refine At_seq ?_; refine At_seq ?_; refine At_region ?_; refine s_mv ?_; refine s_fa ?_; refine s_ld ?_; refine s_ln ?_; refine s_lss ?_; refine AtR_nil ?_; refine At_cond_f rfl ?_; refine At_exit rfl ?_; refine At_seq ?_; refine At_region ?_; refine s_fa ?_; refine s_ld ?_; refine s_fa ?_; refine s_ld ?_; refine s_eql ?_; refine s_mv ?_; refine s_yes rfl rfl rfl rfl ?_; refine g_fa ?_; refine s_yes rfl rfl rfl rfl ?_; refine g_ld ?_; refine s_yes rfl rfl rfl rfl ?_; refine g_fa ?_; refine s_yes rfl rfl rfl rfl ?_; refine g_ld ?_; refine s_yes rfl rfl rfl rfl ?_; refine g_eql ?_; refine s_pt ?_; refine s_mv ?_; refine s_yes rfl rfl rfl rfl ?_; refine g_fa ?_; refine s_yes rfl rfl rfl rfl ?_; refine g_ld ?_; refine s_yes rfl rfl rfl rfl ?_; refine g_fa ?_; refine s_yes rfl rfl rfl rfl ?_; refine g_ld ?_; refine s_yes rfl rfl rfl rfl ?_; refine g_eql ?_; refine s_pt ?_; refine s_mv ?_; refine s_yes rfl rfl rfl rfl ?_; refine g_fa ?_; refine s_yes rfl rfl rfl rfl ?_; refine g_ld ?_; refine s_yes rfl rfl rfl rfl ?_; refine g_fa ?_; refine s_yes rfl rfl rfl rfl ?_; refine g_ld ?_; refine s_yes rfl rfl rfl rfl ?_; refine g_eql ?_; refine s_pt ?_; refine s_mv ?_; refine s_yes rfl rfl rfl rfl ?_; refine g_fa ?_; refine s_yes rfl rfl rfl rfl ?_; refine g_ld ?_; refine s_yes rfl rfl rfl rfl ?_; refine g_fa ?_; refine s_yes rfl rfl rfl rfl ?_; refine g_ld ?_)
    refine s_yes rfl rfl rfl rfl ?_
    by_cases c5 : x.path = y.path
    rotate_left
    · refine g_bool (x_eql_str rfl rfl) (decide_eq_false c5) ?_
      (refine s_pt ?_; refine s_mv ?_; refine s_no rfl rfl rfl rfl ?_; refine s_no rfl rfl rfl rfl ?_; refine s_no rfl rfl rfl rfl ?_; refine s_no rfl rfl rfl rfl ?_; refine s_no rfl rfl rfl rfl ?_; refine s_pf ?_; refine s_mv ?_; refine s_no rfl rfl rfl rfl ?_; refine s_no rfl rfl rfl rfl ?_; refine s_no rfl rfl rfl rfl ?_; refine s_no rfl rfl rfl rfl ?_; refine s_no rfl rfl rfl rfl ?_; refine s_no rfl rfl rfl rfl ?_; refine s_no rfl rfl rfl rfl ?_; refine s_pf ?_; refine s_as ?_; refine AtR_nil ?_)
      refine At_ret1 Tryd.func11 rfl (by conv => lhs; whnf) ?_
      rw [hsb false (decide_eq_false fun h => c5 h.2.2.2.2.1)]
      exact ⟨rfl, K3⟩
    refine g_bool (x_eql_str rfl rfl) (decide_eq_true c5) ?_
    (refine s_pt ?_; refine s_mv ?_; refine s_yes rfl rfl rfl rfl ?_; refine g_fa ?_; refine s_yes rfl rfl rfl rfl ?_; refine g_ld ?_; refine s_yes rfl rfl rfl rfl ?_; refine g_fa ?_; refine s_yes rfl rfl rfl rfl ?_; refine g_ld ?_)
    refine s_yes rfl rfl rfl rfl ?_
    by_cases c6 : x.as_ = y.as_
    rotate_left
    · refine g_bool (x_eql_str rfl rfl) (decide_eq_false c6) ?_
      (refine s_pt ?_; refine s_mv ?_; refine s_no rfl rfl rfl rfl ?_; refine s_no rfl rfl rfl rfl ?_; refine s_no rfl rfl rfl rfl ?_; refine s_no rfl rfl rfl rfl ?_; refine s_no rfl rfl rfl rfl ?_; refine s_no rfl rfl rfl rfl ?_; refine s_no rfl rfl rfl rfl ?_; refine s_pf ?_; refine s_as ?_; refine AtR_nil ?_)
      refine At_ret1 Tryd.func11 rfl (by conv => lhs; whnf) ?_
      rw [hsb false (decide_eq_false fun h => c6 h.2.2.2.2.2.1)]
      exact ⟨rfl, K3⟩
    refine g_bool (x_eql_str rfl rfl) (decide_eq_true c6) ?_
    (refine s_pt ?_; refine s_mv ?_; refine s_yes rfl rfl rfl rfl ?_; refine g_fa ?_; refine s_yes rfl rfl rfl rfl ?_; refine g_ld ?_)
    refine s_yes rfl rfl rfl rfl ?_
    refine g_val (x_conv_bs rfl hxb) ?_
    (refine s_yes rfl rfl rfl rfl ?_; refine g_fa ?_; refine s_yes rfl rfl rfl rfl ?_; refine g_ld ?_)
    refine s_yes rfl rfl rfl rfl ?_
    refine g_val (x_conv_bs rfl hyb) ?_
    refine s_yes rfl rfl rfl rfl ?_
    by_cases c7 : x.b = y.b
    rotate_left
    · refine g_bool (x_eql_str rfl rfl) (decide_eq_false c7) ?_
      (refine s_pt ?_; refine s_as ?_; refine AtR_nil ?_)
      refine At_ret1 Tryd.func11 rfl (by conv => lhs; whnf) ?_
      rw [hsb false (decide_eq_false fun h => c7 h.2.2.2.2.2.2)]
      exact ⟨rfl, K3⟩
    refine g_bool (x_eql_str rfl rfl) (decide_eq_true c7) ?_
    (refine s_pt ?_; refine s_as ?_; refine AtR_nil ?_)
    refine At_ret1 Tryd.func11 rfl (by conv => lhs; whnf) ?_
    rw [hsb true (decide_eq_true ⟨c1, c2, c3, c4, c5, c6, c7⟩)]
    exact ⟨rfl, K3⟩
end Go.Proofs.YtgobmphkakmdmaaDoor
