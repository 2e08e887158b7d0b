/- Trees: a block told. -/
import Derived.Test.YtfngacepjcdlnaaDoorQMf
import Derived.Test.YtfngacepjcdlnaaDoorQTa
set_option linter.unusedVariables false
namespace Go.Mt
open Go Go.Kx Go.Proofs.YtfngacepjcdlnaaDoor
def getT (key name : List UInt8) (st : St) (r : Pr) (d i : Int) : Nat × Option (List UInt8) :=
 if ¬ (0 ≤ d ∧ d ≤ 5) ∨ i < 0 then (2, none) else
 if (roomZ d : Int) ≤ i then (0, none) else
 match getP key name st d.toNat 0 r i.toNat with
 | some x => (0, x)
 | none => (13, none)
def OptAt (w w' : World) (x : Option (List UInt8)) (v : Value) : Prop :=
 match x with
 | none => v = .slice none 0 0
 | some l => ∃ b cap, v = .slice (some ⟨b, 0, none⟩) 512 cap ∧ Sl w' .u8 (some ⟨b, 0, none⟩) 512 cap (bs8 l) ∧ w.heap.size ≤ b ∧ l.length = 512
end Go.Mt
namespace Go.Proofs.YtfngacepjcdlnaaDoor
open Go Go.Kx Go.Kr Go.Mt
set_option maxRecDepth 100000 in
set_option maxHeartbeats 16000000 in
theorem Get_calls (g sp bo : Nat) (key name : List UInt8) (st : St) (r : Pr) (d i : Int) (w : World) {Ds Dg : Nat → Prop} (hg : GroveAt w g sp bo key name Dg) (hst : StAt w sp st Ds) (hr : r.wf) (hd : -9223372036854775808 ≤ d ∧ d ≤ 9223372036854775807) (hi : -9223372036854775808 ≤ i ∧ i ≤ 9223372036854775807) :
  Calls Tryd.prog 30 #[.pointer (some ⟨g, 0, none⟩), .agg (trC r d).toArray, .int .i64 i] w fun e w' => Kp No w w' ∧ ∃ v, e = .returned (.tuple #[v, .int .i64 ((getT key name st r d i).1 : Int)]) ∧ OptAt w w' (getT key name st r d i).2 v := by
 refine calls_at (n := 68) Tryd.func30 rfl rfl (by simp) ?_
 have hl34 := trC_length hr d
 (refine At_seq (At_region ?_))
 refine AtR_go rfl (AtG_box rfl fun b4 w1 hb4 e1 => ?_)
 have B4 : Blk w1 b4 40 (0, 0) (trC r d) := e1.blk
 have K1 : Kp No w w1 := e1.kp (.inr (by omega))
 have z1 := K1.size
 clear e1
 (refine s_as ?_; refine s_as ?_; refine AtR_nil (At_seq (At_block (At_seq ?_))); refine At_region ?_)
 refine s_val (x_load_all rfl B4 hl34) ?_
 refine s_call x_call (right_calls r d _ hr) ?_
 rintro _ w2 ⟨rfl, k2⟩
 refine ⟨_, rfl, ?_⟩
 have B4a := B4.kp k2 fun h => h
 have K2 := K1.trans k2
 clear B4
 have bad : (¬ (0 ≤ d ∧ d ≤ 5) ∨ i < 0) → getT key name st r d i = (2, none) := fun h => by unfold getT; rw [if_pos h]
 by_cases h5 : 0 ≤ d ∧ d ≤ 5
 rotate_left
 ·rw [decide_eq_false h5, bad (.inl h5)]
  (refine s_nt ?_; refine s_mv ?_; refine s_no rfl rfl rfl rfl ?_; refine s_no rfl rfl rfl rfl ?_; refine s_pt ?_; refine s_as ?_; refine AtR_nil ?_; refine At_cond_t rfl ?_; refine At_seq (At_region ?_); refine s_as ?_; refine s_as ?_; refine AtR_nil ?_)
  refine At_ret2 Tryd.func30 rfl (by conv => lhs; whnf) (by conv => lhs; whnf) ?_
  exact ⟨K2, _, rfl, rfl⟩
 rw [decide_eq_true h5]
 by_cases h0 : i < 0
 ·rw [bad (.inr h0)]
  (refine s_nt ?_; refine s_mv ?_; refine s_yes rfl rfl rfl rfl ?_; refine g_mv ?_; refine s_yes rfl rfl rfl rfl ?_; refine g_lss ?_; refine s_pf ?_; refine s_as ?_; refine AtR_nil ?_; refine At_cond_t rfl ?_; refine At_seq (At_region ?_); refine s_as ?_; refine s_as ?_; refine AtR_nil ?_)
  refine At_ret2 Tryd.func30 rfl (by conv => lhs; whnf) (by conv => lhs; whnf) ?_
  exact ⟨K2, _, rfl, rfl⟩
 obtain ⟨m, rfl⟩ : ∃ m : Nat, d = (m : Int) := ⟨d.toNat, by omega⟩
 obtain ⟨t, rfl⟩ : ∃ t : Nat, i = (t : Int) := ⟨i.toNat, by omega⟩
 have hm5 : m ≤ 5 := by omega
 have hdeep := trC_deep hr (m : Int)
 have hroom := roomN_le hm5
 (refine s_nt ?_; refine s_mv ?_; refine s_yes rfl rfl rfl rfl ?_; refine g_mv ?_; refine s_yes rfl rfl rfl rfl ?_; refine g_lss ?_; refine s_pf ?_; refine s_as ?_; refine AtR_nil ?_; refine At_cond_f rfl ?_; refine At_seq (At_region ?_); refine s_mv ?_; refine s_fa ?_)
 refine s_val (x_load1 rfl B4a hdeep) ?_
 refine s_call x_call (room_calls (m : Int) _ (by omega)) ?_
 rintro _ _ ⟨rfl, rfl⟩
 refine ⟨_, rfl, ?_⟩
 rw [roomZ_nat hm5]
 have hgt : getT key name st r (m : Int) (t : Int) = if roomN m ≤ t then (0, none) else match getP key name st m 0 r t with
   | some x => (0, x)
   | none => (13, none) := by
  unfold getT
  rw [if_neg (by omega), roomZ_nat hm5]
  by_cases h : roomN m ≤ t
  ·rw [if_pos h, if_pos (by omega)]
  ·rw [if_neg h, if_neg (by omega)]; rfl
 rw [hgt]
 by_cases hlt : roomN m ≤ t
 ·rw [if_pos hlt]
  (refine s_geq ?_; refine s_as ?_; refine AtR_nil ?_; refine At_cond_t rfl ?_; refine At_seq (At_region ?_); refine s_as ?_; refine s_as ?_; refine AtR_nil ?_)
  refine At_ret2 Tryd.func30 rfl (by conv => lhs; whnf) (by conv => lhs; whnf) ?_
  exact ⟨K2, _, rfl, rfl⟩
 rw [if_neg hlt]
 have hr33 := prC_length hr
 (refine s_geq ?_; refine s_as ?_; refine AtR_nil ?_; refine At_cond_f rfl ?_; refine At_skip (At_inBlock ?_); refine At_seq ?_)
 have B4b := B4a
 have kd := Kp.drew (S := No) (w := w2)
 have KD := K2.trans kd
 let S : World → Prop := fun w' => Blk w' b4 40 (0, 0) (trC r (m : Int))
 have hSk : ∀ {w w'}, S w → Kp No w w' → S w' := fun h k => Blk.kp h k fun h => h
 have hS : S w2.drew := hSk (w := w2) B4a kd
 refine At_meet (σ := Nat × Nat) (fun s => [(0, .pointer (some ⟨g, 0, none⟩)), (2, .int .i64 (t : Int)), (8, .pointer (some ⟨s.1, 0, none⟩)), (9, .pointer (some ⟨s.2, 0, none⟩))])
  (fun s w' => Blk w' s.1 38 (0, 0) (prC r) ∧ Blk w' s.2 153 (0, 0) (spC m 0) ∧ w.heap.size ≤ s.1 ∧ w.heap.size ≤ s.2 ∧ s.1 ≠ s.2 ∧ Kp No w w') ?_ ?_
 rotate_left
 ·intro join
  refine At_draw S rfl ?_
  (apply AtH_take 0 rfl (by decide +kernel) (by exact rfl); (focus (intro wx hx; skip; exact x_fieldAddrN rfl (by first | exact Nat.zero_add _ | exact Nat.add_zero _ | (simp only [Nat.reduceAdd] <;> rfl) | exact rfl))); (focus (exact hS)))
  (apply AtH_take 2 rfl (by decide +kernel) (by exact rfl); (focus (intro wx hx; skip; exact x_fieldAddrN rfl (by first | exact Nat.zero_add _ | exact Nat.add_zero _ | (simp only [Nat.reduceAdd] <;> rfl) | exact rfl))); (focus (exact hS)))
  refine AtH_take 1 rfl (by decide +kernel) (by exact rfl) (fun wx hx => x_load_segN rfl (trC_seg hx) hr33) hS ?_
  refine AtH_take 3 rfl (by decide +kernel) (by exact rfl) (fun wx hx => x_load1 rfl hx hdeep) hS ?_
  refine AtH_take 4 rfl (by decide +kernel) (by exact rfl) (fun wx hx => x_build rfl (built153 (m : Int) 0)) hS ?_
  refine AtH_duo 5 6 7 8 (szA := 33) (szB := 2) (csA := prC r) (csB := spC m 0) rfl rfl rfl rfl (by decide +kernel) (by decide) (by decide) rfl rfl hr33 rfl rfl rfl (prC_one _) rfl hS (fun w' k => hSk hS k) ?_
  intro a b w3 hA hB ha hb hab k3
  have := KD.size
  exact join (a, b) _ _ ⟨rfl, rfl, rfl, rfl, trivial⟩ ⟨hA, hB, by omega, by omega, hab, KD.trans k3⟩
 rintro ⟨b8, b9⟩ w3 junk ⟨B8, B9, hb8, hb9, h89, K3⟩
 simp only at B8 B9 hb8 hb9 h89 ⊢
 clear hS hSk S KD kd
 (refine At_seq (At_block ?_))
 refine At_while (fun s : Nat × Nat × Pr => [(0, .pointer (some ⟨g, 0, none⟩)), (2, .int .i64 (t : Int)), (8, .pointer (some ⟨b8, 0, none⟩)), (9, .pointer (some ⟨b9, 0, none⟩))])
  (fun s w' => s.1 ≤ 5 ∧ s.2.1 ≤ t ∧ t < s.2.1 + roomN s.1 ∧ s.2.1 + roomN s.1 ≤ 537824 ∧ s.2.2.wf ∧ getP key name st m 0 r t = getP key name st s.1 s.2.1 s.2.2 t ∧ Blk w' b8 38 (0, 0) (prC s.2.2) ∧ Blk w' b9 153 (0, 0) (spC s.1 s.2.1) ∧ Kp No w w')
  (fun s => s.1) (m, 0, r) ⟨rfl, rfl, rfl, rfl, trivial⟩ ⟨hm5, Nat.zero_le _, by simp only; omega, by simp only; omega, hr, rfl, B8, B9, K3⟩ ?_
 clear B8 B9
 rintro ⟨lv, fst, p⟩ w4 junk ⟨hlv, hf1, hf2, hroomf, hp, hget, B8, B9, K4⟩ again
 simp only at hlv hf1 hf2 hroomf hp hget B8 B9 again ⊢
 rw [hget]
 have hp33 := prC_length hp
 have hg4 := hg.kpn K4
 have hst4 := hst.kpn K4
 have B8i : Blk w4 b8 38 (0, 0) (.int .i64 (p.sec : Int) :: ints .u8 (bs8 p.mac)) := B8
 have B9i : Blk w4 b9 153 (0, 0) [.int .i64 (lv : Int), .int .i64 (fst : Int)] := B9
 (refine At_seq (At_seq (At_region ?_)); refine s_fa ?_; refine s_ld ?_)
 by_cases hs : p.sec = 0
 ·have hgn : getP key name st lv fst p t = some none := by cases lv <;> rw [getP, if_pos hs]
  rw [hgn]
  rcases Nat.eq_zero_or_pos lv with h0 | h0
  ·(refine s_gtr ?_; refine s_mv ?_; refine s_no rfl rfl rfl rfl ?_; refine s_no rfl rfl rfl rfl ?_; refine s_no rfl rfl rfl rfl ?_; refine s_pf ?_; refine AtR_nil ?_; refine At_cond_f rfl ?_; refine At_exit rfl ?_; refine At_seq (At_seq (At_region ?_)); refine s_fa ?_; refine s_ld ?_; refine s_eql ?_; refine AtR_nil ?_; refine At_cond_t rfl ?_; refine At_seq (At_region ?_); refine s_as ?_; refine s_as ?_; refine AtR_nil ?_)
   refine At_ret2 Tryd.func30 rfl (by conv => lhs; whnf) (by conv => lhs; whnf) ?_
   exact ⟨K4, _, rfl, rfl⟩
  ·(refine s_gtr ?_; refine s_mv ?_; refine s_yes rfl rfl rfl rfl ?_; refine g_fa ?_; refine s_yes rfl rfl rfl rfl ?_; refine g_ld ?_; refine s_yes rfl rfl rfl rfl ?_; refine g_neq ?_; refine s_pt ?_; refine AtR_nil ?_; refine At_cond_f rfl ?_; refine At_exit rfl ?_; refine At_seq (At_seq (At_region ?_)); refine s_fa ?_; refine s_ld ?_; refine s_eql ?_; refine AtR_nil ?_; refine At_cond_t rfl ?_; refine At_seq (At_region ?_); refine s_as ?_; refine s_as ?_; refine AtR_nil ?_)
   refine At_ret2 Tryd.func30 rfl (by conv => lhs; whnf) (by conv => lhs; whnf) ?_
   exact ⟨K4, _, rfl, rfl⟩
 cases lv with
 | zero =>
  have hgn : getP key name st 0 fst p t = (ldP key name st p 0 fst).map some := by rw [getP, if_neg hs]
  rw [hgn]
  (refine s_gtr ?_; refine s_mv ?_; refine s_no rfl rfl rfl rfl ?_; refine s_no rfl rfl rfl rfl ?_; refine s_no rfl rfl rfl rfl ?_; refine s_pf ?_; refine AtR_nil ?_; refine At_cond_f rfl ?_; refine At_exit rfl ?_; refine At_seq (At_seq (At_region ?_)); refine s_fa ?_; refine s_ld ?_; refine s_eql ?_; refine AtR_nil ?_; refine At_cond_f rfl ?_; refine At_skip (At_seq (At_region ?_)); refine s_mv ?_)
  refine s_val (x_load_all rfl B8 hp33) ?_
  refine s_val (x_load_all rfl B9 rfl) ?_
  refine s_call x_call (load_calls st g sp bo key name p 0 fst _ hg4 hst4 hp (by omega) (by omega)) ?_
  rintro e w5 ⟨k5, hload⟩
  have z4 := K4.size
  cases hld : ldP key name st p 0 fst with
  | none =>
   rw [hld] at hload
   simp only at hload ⊢
   subst hload
   refine ⟨_, rfl, ?_⟩
   (refine s_ex ?_; refine s_ex ?_; refine s_as ?_; refine s_as ?_; refine AtR_nil ?_)
   refine At_ret2 Tryd.func30 rfl (by conv => lhs; whnf) (by conv => lhs; whnf) ?_
   exact ⟨K4.trans k5, _, rfl, rfl⟩
  | some l =>
   rw [hld] at hload
   simp only at hload ⊢
   obtain ⟨b, cap, rfl, hsl, hbw, hl⟩ := hload
   refine ⟨_, rfl, ?_⟩
   (refine s_ex ?_; refine s_ex ?_; refine s_as ?_; refine s_as ?_; refine AtR_nil ?_)
   refine At_ret2 Tryd.func30 rfl (by conv => lhs; whnf) (by conv => lhs; whnf) ?_
   exact ⟨K4.trans k5, _, rfl, b, cap, rfl, hsl, by omega, hl⟩
 | succ lv =>
  have hgn : getP key name st (lv + 1) fst p t = match ptsP key name st p (lv + 1) fst with
   | none => none
   | some ps => getP key name st lv (fst + (t - fst) / roomN lv * roomN lv) (ps.getD ((t - fst) / roomN lv) Pr.zero) t := by rw [getP, if_neg hs]; rfl
  obtain ⟨hk14, hkf1, hkf2⟩ := hold_lt hf1 hf2
  obtain ⟨k, hk⟩ : ∃ k, k = (t - fst) / roomN lv := ⟨_, rfl⟩
  rw [← hk] at hk14 hkf1 hkf2 hgn
  rw [hgn] at hget ⊢
  (refine s_gtr ?_; refine s_mv ?_; refine s_yes rfl rfl rfl rfl ?_; refine g_fa ?_; refine s_yes rfl rfl rfl rfl ?_; refine g_ld ?_; refine s_yes rfl rfl rfl rfl ?_; refine g_neq ?_; refine s_pt ?_; refine AtR_nil ?_; refine At_cond_t rfl ?_; refine At_skip (At_block (At_seq (At_region ?_))); refine s_mv ?_)
  refine s_val (x_load_all rfl B8 hp33) ?_
  refine s_val (x_load_all rfl B9 rfl) ?_
  refine s_call x_call (pointers_calls st g sp bo key name p (lv + 1) fst _ hg4 hst4 hp (by omega) (by omega)) ?_
  rintro e w5 ⟨k5, hload⟩
  have z4 := K4.size
  have hz157 : z157.length = 462 := by rw [← psC_zeros]; exact psC_len zeros_wf rfl
  have K5 := K4.trans k5
  cases hpt : ptsP key name st p (lv + 1) fst with
  | none =>
   rw [hpt] at hload
   simp only at hload ⊢
   subst hload
   refine ⟨_, rfl, ?_⟩
   (refine s_mv ?_; refine s_ex ?_; refine s_ex ?_)
   refine AtR_go rfl (AtG_alloc fun b10 w6 hb10 e6 => ?_)
   refine AtR_go rfl (G_skip (r_store_all (s := 462) (vs := psC zeros) rfl rfl e6.blk (psC_len zeros_wf rfl) hz157 (psC_one _)) fun w7 e7 => ?_)
   have k7 : Kp No w5 w7 := (e6.kp (S := No) (.inr (by omega))).trans' (e7.kp (S := fun j => j = b10) (.inl rfl)) (by rintro j rfl; right; omega)
   (refine s_as ?_; refine AtR_nil (At_seq (At_seq (At_region ?_))); refine s_mv ?_; refine s_neq ?_; refine AtR_nil ?_; refine At_cond_t rfl ?_; refine At_seq (At_region ?_); refine s_mv ?_; refine s_as ?_; refine s_as ?_; refine AtR_nil ?_)
   refine At_ret2 Tryd.func30 rfl (by conv => lhs; whnf) (by conv => lhs; whnf) ?_
   exact ⟨K5.trans k7, _, rfl, rfl⟩
  | some ps =>
   rw [hpt] at hload hget
   simp only at hload hget ⊢
   obtain ⟨hw, h14⟩ := ptsP_wf hst.all hpt
   have h462 := psC_len hw h14
   subst hload
   refine ⟨_, rfl, ?_⟩
   (refine s_mv ?_; refine s_ex ?_; refine s_ex ?_)
   refine AtR_go rfl (AtG_alloc fun b10 w6 hb10 e6 => ?_)
   refine AtR_go rfl (G_skip (r_store_all (s := 462) (vs := psC ps) rfl rfl e6.blk h462 hz157 (psC_one _)) fun w7 e7 => ?_)
   have B10 : Blk w7 b10 157 (0, 0) (psC ps) := e7.blk
   have k7 : Kp No w5 w7 := (e6.kp (S := No) (.inr (by omega))).trans' (e7.kp (S := fun j => j = b10) (.inl rfl)) (by rintro j rfl; right; omega)
   have B8a := B8.kp (k5.trans k7) fun h => h
   have B9a := B9.kp (k5.trans k7) fun h => h
   have l8 := (B8.kp k5 fun h => h).lt
   have l9 := (B9.kp k5 fun h => h).lt
   have K7 := K5.trans k7
   clear e6 e7
   (refine s_as ?_; refine AtR_nil (At_seq (At_seq (At_region ?_))); refine s_mv ?_; refine s_neq ?_; refine AtR_nil ?_; refine At_cond_f rfl ?_; refine At_skip (At_seq ?_); refine At_region ?_)
   refine s_val (x_load_all rfl B9a rfl) ?_
   (refine s_mv ?_)
   refine s_call x_call (holds_calls (lv + 1) lv fst t _ rfl (by omega) (by omega) hf1) ?_
   rintro _ w8 ⟨rfl, k8⟩
   refine ⟨_, rfl, ?_⟩
   rw [← hk]
   (refine s_as ?_; refine AtR_nil ?_)
   have kd := Kp.drew (S := No) (w := w8)
   have K8 := (K7.trans k8).trans kd
   have kk := k8.trans kd
   have B8b := B8a.kp kk fun h => h
   have B9b := B9a.kp kk fun h => h
   have B10b := B10.kp kk fun h => h
   let S : World → Prop := fun w' => Blk w' b10 157 (0, 0) (psC ps)
   have hS : S w8.drew := B10b
   have hkl : k < ps.length := by omega
   have hgk : ps.getD k Pr.zero = ps[k] := by simp [List.getD, hkl]
   have hwk := hw ps[k] (List.getElem_mem hkl)
   have hk33 := prC_length hwk
   have hseg : ∀ {w'}, Blk w' b10 157 (0, 0) (psC ps) → Seg w' b10 (0 + ((k : Nat) : Int).toNat * 33) (prC ps[k]) := fun hB j hj => by
    have := psC_get [] hkl hw (show j < 33 by rw [hk33] at hj; exact hj)
    rw [List.append_nil] at this
    rw [Int.toNat_natCast, Nat.zero_add, hB.cell, this]
   have hroomk := kid_le (lv := lv) hk14
   refine At_draw S rfl ?_
   (apply AtH_take 0 rfl (by decide +kernel) (by exact rfl); (focus (intro wx hx; skip; exact x_move (by conv => lhs; whnf))); (focus (exact hS)))
   (apply AtH_take 4 rfl (by decide +kernel) (by exact rfl); (focus (intro wx hx; skip; exact x_move (by conv => lhs; whnf))); (focus (exact hS)))
   refine AtH_take 1 rfl (by decide +kernel) (by exact rfl) (fun wx hx => x_indexAddr_arr rfl rfl (by omega) (by omega)) hS ?_
   refine AtH_take 2 rfl (by decide +kernel) (by exact rfl) (fun wx hx => x_load_segN rfl (hseg hx) hk33) hS ?_
   refine AtH_val 3 rfl (by decide +kernel) (by exact rfl) (x_load_all rfl B9b rfl) hS ?_
   refine AtH_call 5 rfl (by decide +kernel) (by exact rfl) x_call  (child_calls (lv + 1) lv fst k _ rfl (by omega) hk14 (by omega)) ?_
   rintro _ w9 ⟨rfl, k9⟩
   have hS9 : S w9 := hS.kp k9 fun h => h
   refine ⟨_, rfl, hS9, ?_⟩
   clear hS
   refine H_skip 6 rfl (by decide +kernel) (by exact rfl) (r_store_all (s := 33) (vs := prC ps[k]) rfl rfl (B8b.kp k9 fun h => h) hk33 hp33 (prC_one _)) ?_
   intro w10 e10
   have k10 : Kp (fun j => j = b8) w9 w10 := e10.kp (.inl rfl)
   have hS10 : S w10 := Blk.kp hS9 k10 (by omega)
   refine ⟨hS10, ?_⟩
   refine H_skip 7 rfl (by decide +kernel) (by exact rfl) (r_store_all (s := 2) (vs := spC lv (fst + k * roomN lv)) rfl rfl ((B9b.kp k9 fun h => h).kp k10 (Ne.symm h89)) rfl rfl rfl) ?_
   intro w11 e11
   have k11 : Kp (fun j => j = b9) w10 w11 := e11.kp (.inl rfl)
   have hS11 : S w11 := Blk.kp hS10 k11 (by omega)
   refine ⟨hS11, ?_⟩
   have hS := hS11
   refine AtH_done (by decide +kernel) ?_
   have B8c : Blk w11 b8 38 (0, 0) (prC ps[k]) := Blk.kp e10.blk k11 h89
   have K11 : Kp No w w11 := ((K8.trans k9).trans' k10 (by rintro j rfl; right; omega)).trans' k11 (by rintro j rfl; right; omega)
   (refine At_inBlock ?_)
   rw [← hget]
   have hfin : getP key name st m 0 r t = getP key name st lv (fst + k * roomN lv) ps[k] t := by rw [hget, hgk]
   exact again (lv, fst + k * roomN lv, ps[k]) _ _ ⟨rfl, rfl, rfl, rfl, trivial⟩ ⟨by simp only; omega, hkf1, hkf2, by simp only; omega, hwk, hfin, B8c, e11.blk, K11⟩ (by simp only; omega)
end Go.Proofs.YtfngacepjcdlnaaDoor
