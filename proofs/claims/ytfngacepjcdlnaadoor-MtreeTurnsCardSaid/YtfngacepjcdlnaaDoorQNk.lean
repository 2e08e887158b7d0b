/- Trees: the blocks from one on taken from below a place. -/
import Derived.Test.YtfngacepjcdlnaaDoorQPi
import Derived.Test.YtfngacepjcdlnaaDoorQTb
set_option linter.unusedVariables false
namespace Go.Proofs.YtfngacepjcdlnaaDoor
open Go Go.Kx Go.Kr Go.Mt
def CutAt (key name : List UInt8) (c g sp bo lv : Nat) : Prop :=
 ∀ (fst : Nat) (p : Pr) (n : Nat) (ch : Ch) (w : World) (Ds Dc Dg : Nat → Prop), ChAt w c g sp bo key name ch Ds Dc Dg → p.wf → Nums ch → fst + roomN lv ≤ 537824 → n < 9223372036854775808 → Small ch (stp lv) →
  Calls Tryd.prog 92 #[.pointer (some ⟨c, 0, none⟩), .agg (prC p).toArray, .agg (spC lv fst).toArray, .int .i64 (n : Int)] w fun e w' =>
   e = .returned (.tuple #[.agg (prC (cutP key name lv fst p n ch).1.1).toArray, .int .i64 ((cutP key name lv fst p n ch).1.2 : Int)]) ∧ ChTo w w' c g sp bo key name Ds Dc Dg (cutP key name lv fst p n ch).2
set_option maxRecDepth 100000 in
set_option maxHeartbeats 32000000 in
theorem cut_step (key name : List UInt8) (c g sp bo lv : Nat) (hlv : lv ≤ 5) (ih : ∀ m, lv = m + 1 → CutAt key name c g sp bo m) : CutAt key name c g sp bo lv := by
 intro fst p n ch w Ds Dc Dg h hp hnum hroom hn hsm
 refine calls_at (n := 87) Tryd.func92 rfl rfl (by simp) ?_
 have hl33 := prC_length hp
 have hrp := roomN_pos lv
 (refine At_seq (At_region ?_))
 refine AtR_go rfl (AtG_box rfl fun b5 w1 hb5 e1 => ?_)
 have B5 : Blk w1 b5 38 (0, 0) (prC p) := e1.blk
 have k1 : Kp No w w1 := e1.kp (.inr (by omega))
 clear e1
 refine AtR_go rfl (AtG_box rfl fun b6 w2 hb6 e2 => ?_)
 have B6 : Blk w2 b6 153 (0, 0) (spC lv fst) := e2.blk
 have k2 : Kp No w1 w2 := e2.kp (.inr (by omega))
 have z1 := k1.size
 clear e2
 refine AtR_go rfl (AtG_alloc fun b8 w3 hb8 e3 => ?_)
 have B8 : Blk w3 b8 38 (0, 0) z38 := e3.blk
 have k3 : Kp No w2 w3 := e3.kp (.inr (by omega))
 have z2 := k2.size
 clear e3
 have K := (k1.trans k2).trans k3
 have z3 := K.size
 have l5 := B5.lt
 have l6 := B6.lt
 have l8 := B8.lt
 have hno : ∀ j, w.heap.size ≤ j → ¬ Ds j ∧ ¬ Dc j := fun j hj => ⟨fun hd => by have := h.stt.dlt j hd; omega, fun hd => by have := h.clt j hd; omega⟩
 have hnog : ∀ j, w.heap.size ≤ j → ¬ Dg j := fun j hj hd => by have := h.glt j hd; omega
 replace B5 := B5.kp (k2.trans k3) fun h => h
 replace B6 := B6.kp k3 fun h => h
 have fin : ∀ {w5 w6 : World} {Ds5 Dc5 : Nat → Prop} {ch5 : Ch} {q : Pr}, ChAt w5 c g sp bo key name ch5 Ds5 Dc5 Dg → (¬ Ds5 b8 ∧ ¬ Dc5 b8) → (∀ j, Ds5 j ∨ Dc5 j → Ds j ∨ Dc j ∨ w.heap.size ≤ j) → Kp (fun j => Ds j ∨ Dc j) w w5 → Eff w5 w6 b8 (.cells (prC q).toArray 38 (0, 0)) → ChTo w w6 c g sp bo key name Ds Dc Dg ch5 := fun {w5 w6 Ds5 Dc5 ch5 q} h5 hn hD k e => by
  have k6 : Kp (fun j => j = b8) w5 w6 := e.kp (.inl rfl)
  exact ⟨Ds5, Dc5, h5.kp k6 (by rintro j rfl; exact ⟨hn.1, hn.2, hnog _ (by omega)⟩), hD, k.trans' k6 (by rintro j rfl; right; omega)⟩
 have B6i : Blk w3 b6 153 (0, 0) [.int .i64 (lv : Int), .int .i64 (fst : Int)] := B6
 have B5i : Blk w3 b5 38 (0, 0) (.int .i64 (p.sec : Int) :: ints .u8 (bs8 p.mac)) := B5
 have hDD : ∀ j, Ds j ∨ Dc j → Ds j ∨ Dc j ∨ w.heap.size ≤ j := fun j hj => hj.elim .inl fun h => .inr (.inl h)
 (refine s_as ?_; refine AtR_nil (At_seq (At_block ?_)); refine At_seq ?_)
 have kd := Kp.drew (S := No) (w := w3)
 have KD := K.trans kd
 let S : World → Prop := fun w' => Blk w' b5 38 (0, 0) (.int .i64 (p.sec : Int) :: ints .u8 (bs8 p.mac)) ∧ Blk w' b6 153 (0, 0) [.int .i64 (lv : Int), .int .i64 (fst : Int)]
 have hSk : ∀ {w w'}, S w → Kp No w w' → S w' := fun h k => ⟨h.1.kp k fun h => h, h.2.kp k fun h => h⟩
 have hS : S w3.drew := hSk (w := w3) ⟨B5i, B6i⟩ kd
 have B5a := B5.kp kd fun h => h
 have B6a := B6.kp kd fun h => h
 have B8a := B8.kp kd fun h => h
 have hKD := KD.mono (fun _ h => h.elim : ∀ j, No j → (fun j => Ds j ∨ Dc j) j)
 have h4 := h.kpn KD
 have hrl := roomN_le hlv
 refine At_meet (σ := Unit) (fun _ => [(0, .pointer (some ⟨c, 0, none⟩)), (3, .int .i64 (n : Int)), (5, .pointer (some ⟨b5, 0, none⟩)), (6, .pointer (some ⟨b6, 0, none⟩)), (8, .pointer (some ⟨b8, 0, none⟩)), (14, .bool (decide (p.sec = 0 ∨ fst + roomN lv ≤ n)))]) (fun _ w' => w' = w3.drew) ?_ ?_
 rotate_left
 ·intro join
  refine At_draw S rfl ?_
  by_cases h0 : p.sec = 0
  ·rw [show decide (p.sec = 0 ∨ fst + roomN lv ≤ n) = true from decide_eq_true (.inl h0)] at join
   (apply AtH_take 0 rfl (by decide +kernel) (by exact rfl); (focus (intro wx hx; skip; exact x_fieldAddrN rfl (by first | exact Nat.zero_add _ | exact Nat.add_zero _ | (simp only [Nat.reduceAdd] <;> rfl) | exact rfl))); (focus (exact hS)))
   refine AtH_take 1 rfl (by decide +kernel) (by exact rfl) (fun wx hx => x_load1 rfl hx.1 rfl) hS ?_
   (apply AtH_bool 2 rfl (by decide +kernel) (by exact rfl); (focus (intro wx hx; skip; exact x_eql rfl rfl)); (focus (exact decide_eq_true (by omega))); (focus (exact hS)))
   (apply AtH_take 3 rfl (by decide +kernel) (by exact rfl); (focus (intro wx hx; skip; exact x_move (by conv => lhs; whnf))); (focus (exact hS)))
   refine AtH_no 4 rfl (by decide +kernel) (by exact ⟨_, _, rfl, by decide, rfl, rfl⟩) hS ?_
   refine AtH_no 5 rfl (by decide +kernel) (by exact ⟨_, _, rfl, by decide, rfl, rfl⟩) hS ?_
   refine AtH_no 6 rfl (by decide +kernel) (by exact ⟨_, _, rfl, by decide, rfl, rfl⟩) hS ?_
   refine AtH_no 7 rfl (by decide +kernel) (by exact ⟨_, _, rfl, by decide, rfl, rfl⟩) hS ?_
   refine AtH_no 8 rfl (by decide +kernel) (by exact ⟨_, _, rfl, by decide, rfl, rfl⟩) hS ?_
   refine AtH_no 9 rfl (by decide +kernel) (by exact ⟨_, _, rfl, by decide, rfl, rfl⟩) hS ?_
   refine AtH_no 10 rfl (by decide +kernel) (by exact ⟨_, _, rfl, by decide, rfl, rfl⟩) hS ?_
   refine AtH_no 11 rfl (by decide +kernel) (by exact ⟨_, _, rfl, by decide, rfl, rfl⟩) hS ?_
   (apply AtH_take 12 rfl (by decide +kernel) (by exact rfl); (focus (intro wx hx; skip; exact x_pick_t rfl (by conv => lhs; whnf))); (focus (exact hS)))
   (apply AtH_take 13 rfl (by decide +kernel) (by exact rfl); (focus (intro wx hx; skip; exact x_assign (by conv => lhs; whnf))); (focus (exact hS)))
   refine AtH_done (by decide +kernel) ?_
   exact join () _ _ ⟨rfl, rfl, rfl, rfl, rfl, rfl, trivial⟩ rfl
  ·have h0' := h0
   (apply AtH_take 0 rfl (by decide +kernel) (by exact rfl); (focus (intro wx hx; skip; exact x_fieldAddrN rfl (by first | exact Nat.zero_add _ | exact Nat.add_zero _ | (simp only [Nat.reduceAdd] <;> rfl) | exact rfl))); (focus (exact hS)))
   refine AtH_take 1 rfl (by decide +kernel) (by exact rfl) (fun wx hx => x_load1 rfl hx.1 rfl) hS ?_
   (apply AtH_bool 2 rfl (by decide +kernel) (by exact rfl); (focus (intro wx hx; skip; exact x_eql rfl rfl)); (focus (exact decide_eq_false (by omega))); (focus (exact hS)))
   (apply AtH_take 3 rfl (by decide +kernel) (by exact rfl); (focus (intro wx hx; skip; exact x_move (by conv => lhs; whnf))); (focus (exact hS)))
   (apply AtH_take 4 rfl (by decide +kernel) (by exact ⟨_, _, rfl, by decide, rfl, rfl⟩); (focus (intro wx hx; skip; exact x_fieldAddrN rfl (by first | exact Nat.zero_add _ | exact Nat.add_zero _ | (simp only [Nat.reduceAdd] <;> rfl) | exact rfl))); (focus (exact hS)))
   (apply AtH_take 6 rfl (by decide +kernel) (by exact ⟨_, _, rfl, by decide, rfl, rfl⟩); (focus (intro wx hx; skip; exact x_fieldAddrN rfl (by first | exact Nat.zero_add _ | exact Nat.add_zero _ | (simp only [Nat.reduceAdd] <;> rfl) | exact rfl))); (focus (exact hS)))
   (apply AtH_take 10 rfl (by decide +kernel) (by exact ⟨_, _, rfl, by decide, rfl, rfl⟩); (focus (intro wx hx; skip; exact x_move (by conv => lhs; whnf))); (focus (exact hS)))
   refine AtH_take 5 rfl (by decide +kernel) (by exact ⟨_, _, rfl, by decide, rfl, rfl⟩) (fun wx hx => x_load1 rfl hx.2 rfl) hS ?_
   refine AtH_take 7 rfl (by decide +kernel) (by exact ⟨_, _, rfl, by decide, rfl, rfl⟩) (fun wx hx => x_load1 rfl hx.2 rfl) hS ?_
   refine AtH_call 8 rfl (by decide +kernel) (by exact ⟨_, _, rfl, by decide, rfl, rfl⟩) x_call  (room_calls (lv : Int) _ (by omega)) ?_
   rintro _ _ ⟨rfl, rfl⟩
   refine ⟨_, rfl, hS, ?_⟩
   rw [roomZ_nat hlv]
   by_cases h1 : fst + roomN lv ≤ n
   ·rw [show decide (p.sec = 0 ∨ fst + roomN lv ≤ n) = true from decide_eq_true (.inr h1)] at join
    (apply AtH_take 9 rfl (by decide +kernel) (by exact ⟨_, _, rfl, by decide, rfl, rfl⟩); (focus (intro wx hx; skip; exact x_add64 rfl rfl (by omega) (by omega))); (focus (exact hS)))
    (apply AtH_bool 11 rfl (by decide +kernel) (by exact ⟨_, _, rfl, by decide, rfl, rfl⟩); (focus (intro wx hx; skip; exact x_leq rfl rfl)); (focus (exact decide_eq_true (by omega))); (focus (exact hS)))
    (apply AtH_take 12 rfl (by decide +kernel) (by exact rfl); (focus (intro wx hx; skip; exact x_pick_f rfl (by conv => lhs; whnf))); (focus (exact hS)))
    (apply AtH_take 13 rfl (by decide +kernel) (by exact rfl); (focus (intro wx hx; skip; exact x_assign (by conv => lhs; whnf))); (focus (exact hS)))
    refine AtH_done (by decide +kernel) ?_
    exact join () _ _ ⟨rfl, rfl, rfl, rfl, rfl, rfl, trivial⟩ rfl
   ·rw [show decide (p.sec = 0 ∨ fst + roomN lv ≤ n) = false from decide_eq_false (by omega)] at join
    (apply AtH_take 9 rfl (by decide +kernel) (by exact ⟨_, _, rfl, by decide, rfl, rfl⟩); (focus (intro wx hx; skip; exact x_add64 rfl rfl (by omega) (by omega))); (focus (exact hS)))
    (apply AtH_bool 11 rfl (by decide +kernel) (by exact ⟨_, _, rfl, by decide, rfl, rfl⟩); (focus (intro wx hx; skip; exact x_leq rfl rfl)); (focus (exact decide_eq_false (by omega))); (focus (exact hS)))
    (apply AtH_take 12 rfl (by decide +kernel) (by exact rfl); (focus (intro wx hx; skip; exact x_pick_f rfl (by conv => lhs; whnf))); (focus (exact hS)))
    (apply AtH_take 13 rfl (by decide +kernel) (by exact rfl); (focus (intro wx hx; skip; exact x_assign (by conv => lhs; whnf))); (focus (exact hS)))
    refine AtH_done (by decide +kernel) ?_
    exact join () _ _ ⟨rfl, rfl, rfl, rfl, rfl, rfl, trivial⟩ rfl
 rintro _ w4 junk rfl
 clear hS hSk S B5i B6i
 have B5c : Blk w3.drew b5 38 (0, 0) (.int .i64 (p.sec : Int) :: ints .u8 (bs8 p.mac)) := B5a
 have B6c : Blk w3.drew b6 153 (0, 0) [.int .i64 (lv : Int), .int .i64 (fst : Int)] := B6a
 by_cases h0 : p.sec = 0 ∨ fst + roomN lv ≤ n
 ·have he : cutP key name lv fst p n ch = ((p, 0), ch) := by cases lv <;> (rw [cutP]; exact if_pos h0)
  rw [he, decide_eq_true h0]
  (refine At_cond_t rfl ?_; refine At_seq (At_region ?_))
  refine s_val (x_load_all rfl B5a hl33) ?_
  refine AtR_go rfl (G_skip (r_store_all (s := 33) (vs := prC p) rfl rfl B8a hl33 rfl (prC_one _)) fun w6 e6 => ?_)
  (refine s_as ?_; refine AtR_nil ?_)
  exact At_ret_cell2 (s := 33) Tryd.func92 rfl rfl e6.blk hl33 rfl ⟨rfl, fin h4 (hno b8 (by omega)) hDD hKD e6⟩
 rw [decide_eq_false h0]
 cases lv with
 | zero =>
  have he : cutP key name 0 fst p n ch = ((Pr.zero, 0), ch.lose p) := by rw [cutP, if_neg h0]
  rw [he]
  (refine At_cond_f rfl ?_; refine At_seq (At_region ?_); refine s_fa ?_; refine s_ld ?_; refine s_eql ?_; refine s_as ?_; refine AtR_nil ?_; refine At_cond_t rfl ?_; refine At_seq (At_region ?_); refine s_mv ?_)
  refine s_val (x_load_all rfl B5a hl33) ?_
  refine s_call x_call (lose_calls c g sp bo key name ch p _ h4 hp (hsm.mono (by simp [stp]))) ?_
  rintro _ w5 ⟨rfl, Ds5, Dc5, h5, hD5, k5⟩
  refine ⟨_, rfl, ?_⟩
  have o8 : ¬ Ds b8 ∧ ¬ Dc b8 := hno b8 (by omega)
  have B8b := B8a.kp k5 (out_kp o8)
  have l8d := B8a.lt
  (refine AtR_nil (At_seq ?_); refine At_region ?_)
  refine s_val (x_build rfl built38_nil) ?_
  skip
  refine AtR_go rfl (G_skip (r_store_all (s := 33) (vs := prC Pr.zero) rfl rfl B8b rfl rfl (prC_one _)) fun w6 e6 => ?_)
  (refine s_as ?_; refine AtR_nil ?_)
  have zd := KD.size
  exact At_ret_cell2 (s := 33) Tryd.func92 rfl rfl e6.blk rfl rfl ⟨rfl, fin h5 (out_of hD5 o8 l8d) (chain_D hD5 hDD zd) (chain_K hKD k5 hDD) e6⟩
 | succ lv =>
  have hstp : stp (lv + 1) = 14 * stp lv + 2 := rfl
  obtain ⟨ps, cd, hcase, hw, h14⟩ : ∃ ps cd, ((ptsP key name ch.st p (lv + 1) fst = some ps ∧ cd = 0) ∨ (ptsP key name ch.st p (lv + 1) fst = none ∧ ps = zeros ∧ cd = 13)) ∧ (∀ q ∈ ps, q.wf) ∧ ps.length = 14 := by
   cases hpt : ptsP key name ch.st p (lv + 1) fst with
   | some ps => exact ⟨ps, 0, .inl ⟨rfl, rfl⟩, ptsP_wf h4.stt.all hpt⟩
   | none => exact ⟨zeros, 13, .inr ⟨rfl, rfl, rfl⟩, zeros_wf, rfl⟩
  have h462 := psC_len hw h14
  generalize hw4 : w3.drew = w4 at *
  have hcall : ∀ {wx : World}, Kp No w4 wx → Calls Tryd.prog 79 #[.pointer (some ⟨g, 0, none⟩), .agg (prC p).toArray, .agg (spC (lv + 1) fst).toArray] wx fun e w' => Kp No wx w' ∧ e = .returned (.tuple #[.agg (psC ps).toArray, .int .i64 (cd : Int)]) := fun {wx} kx => by
   refine (pointers_calls ch.st g sp bo key name p (lv + 1) fst wx (h4.gr.kpn kx) (h4.stt.kpn kx) hp (by omega) (by omega)).mono fun e w' hh => ⟨hh.1, ?_⟩
   rcases hcase with ⟨h1, rfl⟩ | ⟨h1, rfl, rfl⟩
   ·rw [h1] at hh; exact hh.2
   ·rw [h1] at hh; exact hh.2
  obtain ⟨av, cv, ag, cg, hR4, _⟩ := h4.row
  have hz157 : z157.length = 462 := by rw [← psC_zeros]; exact psC_len zeros_wf rfl
  have zKD := KD.size
  have lb4 : b5 < w4.heap.size ∧ b6 < w4.heap.size ∧ b8 < w4.heap.size := ⟨B5a.lt, B6a.lt, B8a.lt⟩
  (refine At_cond_f rfl ?_; refine At_seq (At_region ?_); refine s_fa ?_; refine s_ld ?_; refine s_eql ?_; refine s_as ?_; refine AtR_nil ?_; refine At_cond_f rfl ?_; refine At_skip (At_inBlock ?_); refine At_seq ?_)
  refine At_meet (σ := Nat) (fun b10 => [(0, .pointer (some ⟨c, 0, none⟩)), (3, .int .i64 (n : Int)), (5, .pointer (some ⟨b5, 0, none⟩)), (6, .pointer (some ⟨b6, 0, none⟩)), (8, .pointer (some ⟨b8, 0, none⟩)), (10, .pointer (some ⟨b10, 0, none⟩)), (11, .int .i64 (cd : Int))])
   (fun b10 w' => Blk w' b10 157 (0, 0) (psC ps) ∧ w4.heap.size ≤ b10 ∧ Kp No w4 w') ?_ ?_
  rotate_left
  ·intro join
   have kd := Kp.drew (S := No) (w := w4)
   let S : World → Prop := fun w' => Blk w' c 149 (0, 0) [.pointer (some ⟨g, 0, none⟩), .slice av ch.saved.length cv, .slice ag ch.gone.length cg] ∧ Blk w' b5 38 (0, 0) (prC p) ∧ Blk w' b6 153 (0, 0) (spC (lv + 1) fst)
   have hSk : ∀ {w w'}, S w → Kp No w w' → S w' := fun h k => ⟨h.1.kp k fun h => h, h.2.1.kp k fun h => h, h.2.2.kp k fun h => h⟩
   have hS : S w4.drew := hSk (w := w4) ⟨hR4, B5a, B6a⟩ kd
   have hcl := h4.clt c h4.dc
   refine At_draw S rfl ?_
   (apply AtH_take 0 rfl (by decide +kernel) (by exact rfl); (focus (intro wx hx; skip; exact x_move (by conv => lhs; whnf))); (focus (exact hS)))
   (apply AtH_take 1 rfl (by decide +kernel) (by exact rfl); (focus (intro wx hx; skip; exact x_nilCheck rfl)); (focus (exact hS)))
   (apply AtH_take 2 rfl (by decide +kernel) (by exact rfl); (focus (intro wx hx; skip; exact x_fieldAddrN rfl (by first | exact Nat.zero_add _ | exact Nat.add_zero _ | (simp only [Nat.reduceAdd] <;> rfl) | exact rfl))); (focus (exact hS)))
   refine AtH_take 3 rfl (by decide +kernel) (by exact rfl) (fun wx hx => x_load1 rfl hx.1 rfl) hS ?_
   refine AtH_take 4 rfl (by decide +kernel) (by exact rfl) (fun wx hx => x_load_all rfl hx.2.1 hl33) hS ?_
   refine AtH_take 5 rfl (by decide +kernel) (by exact rfl) (fun wx hx => x_load_all rfl hx.2.2 rfl) hS ?_
   refine AtH_pairX 10 6 rfl rfl (by first | exact .inl (by decide +kernel) | exact .inr (by decide +kernel)) (by exact rfl) (by exact rfl) r_alloc x_call (hcall kd) ?_ ?_
   ·rintro _ w5 ⟨b10, rfl, hb10, e5⟩
    have B10 : Blk w5 b10 157 (0, 0) z157 := e5.blk
    have k5 : Kp No w4.drew w5 := e5.kp (.inr (by omega))
    have zd := kd.size
    have hS5 := hSk hS k5
    refine ⟨hS5, ?_⟩
    clear hS
    have hS := hS5
    refine AtH_call 6 rfl (by decide +kernel) (by exact rfl) x_call  (hcall (kd.trans k5)) ?_
    rintro _ w6 ⟨k6, rfl⟩
    have hS6 := hSk hS k6
    refine ⟨_, rfl, hS6, ?_⟩
    clear hS
    have hS := hS6
    (apply AtH_take 7 rfl (by decide +kernel) (by exact rfl); (focus (intro wx hx; skip; exact x_move (by conv => lhs; whnf))); (focus (exact hS)))
    (apply AtH_take 8 rfl (by decide +kernel) (by exact rfl); (focus (intro wx hx; skip; exact x_extract rfl rfl)); (focus (exact hS)))
    (apply AtH_take 9 rfl (by decide +kernel) (by exact rfl); (focus (intro wx hx; skip; exact x_extract rfl rfl)); (focus (exact hS)))
    refine H_skip 11 rfl (by decide +kernel) (by exact rfl) (r_store_all (s := 462) (vs := psC ps) rfl rfl (B10.kp k6 fun h => h) h462 hz157 (psC_one _)) ?_
    intro w7 e7
    have k7 : Kp (fun j => j = b10) w6 w7 := e7.kp (.inl rfl)
    have hS7 : S w7 := ⟨hS.1.kp k7 (by omega), hS.2.1.kp k7 (by omega), hS.2.2.kp k7 (by omega)⟩
    refine ⟨hS7, ?_⟩
    clear hS
    have hS := hS7
    (apply AtH_take 12 rfl (by decide +kernel) (by exact rfl); (focus (intro wx hx; skip; exact x_assign (by conv => lhs; whnf))); (focus (exact hS)))
    refine AtH_done (by decide +kernel) ?_
    exact join b10 _ _ ⟨rfl, rfl, rfl, rfl, rfl, rfl, rfl, trivial⟩ ⟨e7.blk, by omega, ((kd.trans k5).trans k6).trans' k7 (by rintro j rfl; right; omega)⟩
   ·rintro _ w5 ⟨k5, rfl⟩
    have hS5 := hSk hS k5
    refine ⟨_, rfl, hS5, ?_⟩
    clear hS
    have hS := hS5
    (apply AtH_take 7 rfl (by decide +kernel) (by exact rfl); (focus (intro wx hx; skip; exact x_move (by conv => lhs; whnf))); (focus (exact hS)))
    (apply AtH_take 8 rfl (by decide +kernel) (by exact rfl); (focus (intro wx hx; skip; exact x_extract rfl rfl)); (focus (exact hS)))
    (apply AtH_take 9 rfl (by decide +kernel) (by exact rfl); (focus (intro wx hx; skip; exact x_extract rfl rfl)); (focus (exact hS)))
    refine H_val 10 rfl (by decide +kernel) (by exact rfl) r_alloc ?_
    rintro _ w6 ⟨b10, rfl, hb10, e6⟩
    have B10 : Blk w6 b10 157 (0, 0) z157 := e6.blk
    have k6 : Kp No w5 w6 := e6.kp (.inr (by omega))
    have zd := (kd.trans k5).size
    have hS6 := hSk hS k6
    refine ⟨hS6, ?_⟩
    clear hS
    have hS := hS6
    refine H_skip 11 rfl (by decide +kernel) (by exact rfl) (r_store_all (s := 462) (vs := psC ps) rfl rfl B10 h462 hz157 (psC_one _)) ?_
    intro w7 e7
    have k7 : Kp (fun j => j = b10) w6 w7 := e7.kp (.inl rfl)
    have hS7 : S w7 := ⟨hS.1.kp k7 (by omega), hS.2.1.kp k7 (by omega), hS.2.2.kp k7 (by omega)⟩
    refine ⟨hS7, ?_⟩
    clear hS
    have hS := hS7
    (apply AtH_take 12 rfl (by decide +kernel) (by exact rfl); (focus (intro wx hx; skip; exact x_assign (by conv => lhs; whnf))); (focus (exact hS)))
    refine AtH_done (by decide +kernel) ?_
    exact join b10 _ _ ⟨rfl, rfl, rfl, rfl, rfl, rfl, rfl, trivial⟩ ⟨e7.blk, by omega, ((kd.trans k5).trans k6).trans' k7 (by rintro j rfl; right; omega)⟩
  rintro b10 w5 junk2 ⟨B10, hb10, k5⟩
  have h5 := h4.kpn k5
  have B5d := B5a.kp k5 fun h => h
  have B6d := B6a.kp k5 fun h => h
  have B8d := B8a.kp k5 fun h => h
  have K5 := hKD.trans (k5.mono (fun _ h => h.elim : ∀ j, No j → (fun j => Ds j ∨ Dc j) j))
  have z5 := k5.size
  have l10 := B10.lt
  rcases hcase with ⟨hpt, rfl⟩ | ⟨hpt, rfl, rfl⟩
  rotate_left
  ·have he : cutP key name (lv + 1) fst p n ch = ((Pr.zero, 13), ch) := by rw [cutP, if_neg h0, hpt]
   rw [he]
   (refine At_seq (At_seq (At_region ?_)); refine s_mv ?_; refine s_neq ?_; refine AtR_nil ?_; refine At_cond_t rfl ?_; refine At_seq (At_region ?_))
   refine s_val (x_build rfl built38_nil) ?_
   (refine s_mv ?_)
   refine AtR_go rfl (G_skip (r_store_all (s := 33) (vs := prC Pr.zero) rfl rfl B8d rfl rfl (prC_one _)) fun w6 e6 => ?_)
   (refine s_as ?_; refine AtR_nil ?_)
   exact At_ret_cell2 (s := 33) Tryd.func92 rfl rfl e6.blk rfl rfl ⟨rfl, fin h5 (hno b8 (by omega)) hDD K5 e6⟩
  have he : cutP key name (lv + 1) fst p n ch =
    (if (cutK (fun k q c => cutP key name lv (fst + k * roomN lv) q n c) 14 ps ch).1.2 = 0 then
     if (cutK (fun k q c => cutP key name lv (fst + k * roomN lv) q n c) 14 ps ch).1.1 = ps then ((p, 0), (cutK (fun k q c => cutP key name lv (fst + k * roomN lv) q n c) 14 ps ch).2)
     else ((cutK (fun k q c => cutP key name lv (fst + k * roomN lv) q n c) 14 ps ch).2.lose p).node key name (lv + 1) fst (cutK (fun k q c => cutP key name lv (fst + k * roomN lv) q n c) 14 ps ch).1.1
    else ((Pr.zero, (cutK (fun k q c => cutP key name lv (fst + k * roomN lv) q n c) 14 ps ch).1.2), (cutK (fun k q c => cutP key name lv (fst + k * roomN lv) q n c) 14 ps ch).2)) := by rw [cutP, if_neg h0, hpt]
  have hfine := cutK_fine (g := fun k q c => cutP key name lv (fst + k * roomN lv) q n c) (s := stp lv) (fun k q c m' hk hq hc hsc => cut_fine lv (fst + k * roomN lv) q c m' hq hc hsc) hw h14 hnum
  have hstop : ∀ {i : Nat}, (cutK (fun k q c => cutP key name lv (fst + k * roomN lv) q n c) i ps ch).1.2 ≠ 0 → ∀ m, i ≤ m → cutK (fun k q c => cutP key name lv (fst + k * roomN lv) q n c) m ps ch = cutK (fun k q c => cutP key name lv (fst + k * roomN lv) q n c) i ps ch := fun h m hm => cutK_stop h m hm
  have hstep : ∀ i, cutK (fun k q c => cutP key name lv (fst + k * roomN lv) q n c) (i + 1) ps ch = (if (cutK (fun k q c => cutP key name lv (fst + k * roomN lv) q n c) i ps ch).1.2 = 0 then
    (((cutK (fun k q c => cutP key name lv (fst + k * roomN lv) q n c) i ps ch).1.1.set i (cutP key name lv (fst + i * roomN lv) ((cutK (fun k q c => cutP key name lv (fst + k * roomN lv) q n c) i ps ch).1.1.getD i Pr.zero) n (cutK (fun k q c => cutP key name lv (fst + k * roomN lv) q n c) i ps ch).2).1.1,
     (cutP key name lv (fst + i * roomN lv) ((cutK (fun k q c => cutP key name lv (fst + k * roomN lv) q n c) i ps ch).1.1.getD i Pr.zero) n (cutK (fun k q c => cutP key name lv (fst + k * roomN lv) q n c) i ps ch).2).1.2), (cutP key name lv (fst + i * roomN lv) ((cutK (fun k q c => cutP key name lv (fst + k * roomN lv) q n c) i ps ch).1.1.getD i Pr.zero) n (cutK (fun k q c => cutP key name lv (fst + k * roomN lv) q n c) i ps ch).2).2)
    else cutK (fun k q c => cutP key name lv (fst + k * roomN lv) q n c) i ps ch) := fun i => by rw [cutK]
  have hk0 : cutK (fun k q c => cutP key name lv (fst + k * roomN lv) q n c) 0 ps ch = ((ps, 0), ch) := rfl
  rw [he]
  clear he
  generalize cutK (fun k q c => cutP key name lv (fst + k * roomN lv) q n c) = KK at *
  (refine At_seq (At_seq (At_region ?_)); refine s_mv ?_; refine s_neq ?_; refine AtR_nil ?_; refine At_cond_f rfl ?_; refine At_skip (At_seq ?_); refine At_region ?_)
  refine s_val (x_load_all rfl B10 h462) ?_
  refine AtR_go rfl (AtG_alloc fun b12 w6 hb12 e6 => ?_)
  refine AtR_go rfl (G_skip (r_store_all (s := 462) (vs := psC ps) rfl rfl e6.blk h462 hz157 (psC_one _)) fun w7 e7 => ?_)
  have B12 : Blk w7 b12 157 (0, 0) (psC ps) := e7.blk
  have k7 : Kp No w5 w7 := (e6.kp (S := No) (.inr (by omega))).trans' (e7.kp (S := fun j => j = b12) (.inl rfl)) (by rintro j rfl; right; omega)
  clear e6 e7
  have h7 := h5.kpn k7
  have B10a := B10.kp k7 fun h => h
  have B5e := B5d.kp k7 fun h => h
  have B6e := B6d.kp k7 fun h => h
  have B8e := B8d.kp k7 fun h => h
  have K7 := K5.trans (k7.mono (fun _ h => h.elim : ∀ j, No j → (fun j => Ds j ∨ Dc j) j))
  have z7 := k7.size
  have l12 := B12.lt
  (refine AtR_nil (At_seq (At_seq (At_region ?_))); refine s_mv ?_; refine AtR_nil (At_block ?_))
  have o8 : ∀ j, w.heap.size ≤ j → j < w4.heap.size → ¬ Ds j ∧ ¬ Dc j := fun j h1 _ => hno j h1
  have z57 : w.heap.size ≤ w7.heap.size := by omega
  refine At_while (fun s : Nat × List Pr × Ch => [(0, .pointer (some ⟨c, 0, none⟩)), (3, .int .i64 (n : Int)), (5, .pointer (some ⟨b5, 0, none⟩)), (6, .pointer (some ⟨b6, 0, none⟩)), (8, .pointer (some ⟨b8, 0, none⟩)), (10, .pointer (some ⟨b10, 0, none⟩)), (12, .pointer (some ⟨b12, 0, none⟩)), (52, .int .i64 (s.1 : Int))])
   (fun s w' => s.1 ≤ 14 ∧ KK s.1 ps ch = ((s.2.1, 0), s.2.2) ∧ Blk w' b10 157 (0, 0) (psC s.2.1) ∧ Blk w' b12 157 (0, 0) (psC ps) ∧ Blk w' b5 38 (0, 0) (prC p) ∧ Blk w' b6 153 (0, 0) (spC (lv + 1) fst) ∧ Blk w' b8 38 (0, 0) z38 ∧
    ∃ Ds' Dc', ChAt w' c g sp bo key name s.2.2 Ds' Dc' Dg ∧ (∀ j, Ds' j ∨ Dc' j → Ds j ∨ Dc j ∨ w.heap.size ≤ j) ∧ (∀ j, (j = b5 ∨ j = b6 ∨ j = b8 ∨ j = b10 ∨ j = b12) → ¬ Ds' j ∧ ¬ Dc' j) ∧ Kp (fun j => Ds j ∨ Dc j) w w') (fun s => 14 - s.1) (0, ps, ch) ⟨rfl, rfl, rfl, rfl, rfl, rfl, rfl, rfl, trivial⟩
   ⟨by omega, hk0, B10a, B12, B5e, B6e, B8e, Ds, Dc, h7, hDD, (fun j hj => hno j (by omega)), K7⟩ ?_
  clear B10a B12 B5e B6e B8e
  rintro ⟨i, qs, ch'⟩ w8 junk3 ⟨hi, hKK, B10i, B12i, B5f, B6f, B8f, Ds', Dc', h8, hD8, hn8, K8⟩ again
  simp only at hi hKK B10i h8 again ⊢
  have n10 := hn8 b10 (.inr (.inr (.inr (.inl rfl))))
  have n12 := hn8 b12 (.inr (.inr (.inr (.inr rfl))))
  have n5 := hn8 b5 (.inl rfl)
  have n6 := hn8 b6 (.inr (.inl rfl))
  have n8 := hn8 b8 (.inr (.inr (.inl rfl)))
  have lb10 := B10i.lt
  have lb12 := B12i.lt
  have lb5 := B5f.lt
  have lb6 := B6f.lt
  have lb8 := B8f.lt
  by_cases hlt : i < 14
  ·have hmi : i * stp lv + stp lv ≤ 14 * stp lv := by
    have : (i + 1) * stp lv ≤ 14 * stp lv := Nat.mul_le_mul_right _ (by omega)
    rw [Nat.add_mul, Nat.one_mul] at this; exact this
   have hfi := hfine i (stp lv) (by omega) (hsm.mono (by omega))
   rw [hKK] at hfi
   obtain ⟨hsmi, hwq, hq14, hnum'⟩ := hfi
   simp only at hsmi hwq hq14 hnum'
   have hil : i < qs.length := by omega
   have hgi : qs.getD i Pr.zero = qs[i] := by simp [List.getD, hil]
   have hwi := hwq qs[i] (List.getElem_mem hil)
   have hi33 := prC_length hwi
   have hq462 := psC_len hwq hq14
   have hkl := kid_le (lv := lv) hlt
   have hseg : ∀ {w'}, Blk w' b10 157 (0, 0) (psC qs) → Seg w' b10 (0 + ((i : Nat) : Int).toNat * 33) (prC qs[i]) := fun hB j hj => by
    have := psC_get [] hil hwq (show j < 33 by rw [hi33] at hj; exact hj)
    rw [List.append_nil] at this
    rw [Int.toNat_natCast, Nat.zero_add, hB.cell, this]
   have hst := hstep i
   rw [hKK] at hst
   simp only [if_true, hgi] at hst
   (refine At_seq (At_region ?_); refine s_lss ?_; refine AtR_nil (At_seq ?_); refine At_cond_t rfl ?_; refine At_skip (At_seq (At_block (At_seq (At_region ?_)))); refine s_mv ?_; refine s_as ?_; refine AtR_nil (At_seq ?_))
   refine At_meet (σ := Unit) (fun _ => [(0, .pointer (some ⟨c, 0, none⟩)), (3, .int .i64 (n : Int)), (5, .pointer (some ⟨b5, 0, none⟩)), (6, .pointer (some ⟨b6, 0, none⟩)), (8, .pointer (some ⟨b8, 0, none⟩)), (10, .pointer (some ⟨b10, 0, none⟩)), (11, .int .i64 ((cutP key name lv (fst + i * roomN lv) qs[i] n ch').1.2 : Int)), (12, .pointer (some ⟨b12, 0, none⟩)), (52, .int .i64 (i : Int))])
    (fun _ w' => Blk w' b10 157 (0, 0) (psC (qs.set i (cutP key name lv (fst + i * roomN lv) qs[i] n ch').1.1)) ∧ Blk w' b12 157 (0, 0) (psC ps) ∧ Blk w' b5 38 (0, 0) (prC p) ∧ Blk w' b6 153 (0, 0) (spC (lv + 1) fst) ∧ Blk w' b8 38 (0, 0) z38 ∧
     ∃ Ds2 Dc2, ChAt w' c g sp bo key name (cutP key name lv (fst + i * roomN lv) qs[i] n ch').2 Ds2 Dc2 Dg ∧ (∀ j, Ds2 j ∨ Dc2 j → Ds j ∨ Dc j ∨ w.heap.size ≤ j) ∧ (∀ j, (j = b5 ∨ j = b6 ∨ j = b8 ∨ j = b10 ∨ j = b12) → ¬ Ds2 j ∧ ¬ Dc2 j) ∧ Kp (fun j => Ds j ∨ Dc j) w w') ?_ ?_
   rotate_left
   ·intro join8
    have kd := Kp.drew (S := No) (w := w8)
    let S : World → Prop := fun w' => Blk w' b6 153 (0, 0) (spC (lv + 1) fst)
    have hS : S w8.drew := B6f.kp kd fun h => h
    have z8 := K8.size
    have fin8 : ∀ {wx wa wb : World} {Ds9 Dc9 : Nat → Prop} {R : (Pr × Nat) × Ch}, Kp No w8 wx → ChAt wa c g sp bo key name R.2 Ds9 Dc9 Dg → (∀ j, Ds9 j ∨ Dc9 j → Ds' j ∨ Dc' j ∨ wx.heap.size ≤ j) → Kp (fun j => Ds' j ∨ Dc' j) wx wa → Eff wa wb b10 (.cells (psC (qs.set i R.1.1)).toArray 157 (0, 0)) →
      Blk wb b10 157 (0, 0) (psC (qs.set i R.1.1)) ∧ Blk wb b12 157 (0, 0) (psC ps) ∧ Blk wb b5 38 (0, 0) (prC p) ∧ Blk wb b6 153 (0, 0) (spC (lv + 1) fst) ∧ Blk wb b8 38 (0, 0) z38 ∧
       ∃ Ds2 Dc2, ChAt wb c g sp bo key name R.2 Ds2 Dc2 Dg ∧ (∀ j, Ds2 j ∨ Dc2 j → Ds j ∨ Dc j ∨ w.heap.size ≤ j) ∧ (∀ j, (j = b5 ∨ j = b6 ∨ j = b8 ∨ j = b10 ∨ j = b12) → ¬ Ds2 j ∧ ¬ Dc2 j) ∧ Kp (fun j => Ds j ∨ Dc j) w wb := fun {wx wa wb Ds9 Dc9 R} kx hch hD9 ka he => by
     have zx := kx.size
     have k : Kp (fun j => j = b10) wa wb := he.kp (.inl rfl)
     have hn9 : ∀ j, (j = b5 ∨ j = b6 ∨ j = b8 ∨ j = b10 ∨ j = b12) → ¬ Ds9 j ∧ ¬ Dc9 j := fun j hj => out_of hD9 (hn8 j hj) (by rcases hj with rfl | rfl | rfl | rfl | rfl <;> omega)
     exact ⟨he.blk, ((B12i.kp kx fun h => h).kp ka (out_kp n12)).kp k (by omega), ((B5f.kp kx fun h => h).kp ka (out_kp n5)).kp k (by omega), ((B6f.kp kx fun h => h).kp ka (out_kp n6)).kp k (by omega), ((B8f.kp kx fun h => h).kp ka (out_kp n8)).kp k (by omega),
      Ds9, Dc9, hch.kp k (by rintro j rfl; exact ⟨(hn9 _ (.inr (.inr (.inr (.inl rfl))))).1, (hn9 _ (.inr (.inr (.inr (.inl rfl))))).2, hnog _ (by omega)⟩), chain_D hD9 hD8 (by omega), hn9, (chain_K (K8.trans (kx.mono (fun _ h => h.elim : ∀ j, No j → (fun j => Ds j ∨ Dc j) j))) ka hD8).trans' k (by rintro j rfl; right; omega)⟩
    refine At_draw S rfl ?_
    (apply AtH_take 0 rfl (by decide +kernel) (by exact rfl); (focus (intro wx hx; skip; exact x_move (by conv => lhs; whnf))); (focus (exact hS)))
    (apply AtH_take 1 rfl (by decide +kernel) (by exact rfl); (focus (intro wx hx; skip; exact x_move (by conv => lhs; whnf))); (focus (exact hS)))
    (apply AtH_take 2 rfl (by decide +kernel) (by exact rfl); (focus (intro wx hx; skip; exact x_move (by conv => lhs; whnf))); (focus (exact hS)))
    (apply AtH_take 6 rfl (by decide +kernel) (by exact rfl); (focus (intro wx hx; skip; exact x_move (by conv => lhs; whnf))); (focus (exact hS)))
    (apply AtH_take 8 rfl (by decide +kernel) (by exact rfl); (focus (intro wx hx; skip; exact x_move (by conv => lhs; whnf))); (focus (exact hS)))
    refine AtH_take 3 rfl (by decide +kernel) (by exact rfl) (fun wx hx => x_indexAddr_arr rfl rfl (by omega) (by omega)) hS ?_
    refine AtH_take 5 rfl (by decide +kernel) (by exact rfl) (fun wx hx => x_load_all rfl hx rfl) hS ?_
    refine AtH_pairX (Q1 := fun v w1 => v = Value.agg (prC qs[i]).toArray ∧ w1 = w8.drew) 4 7 rfl rfl (by first | exact .inl (by decide +kernel) | exact .inr (by decide +kernel)) (by exact rfl) (by exact rfl) ⟨_, _, x_load_segN rfl (hseg (B10i.kp kd fun h => h)) hi33, rfl, rfl⟩ x_call (child_calls (lv + 1) lv fst i _ rfl (by omega) hlt hroom) ?_ ?_
    ·skip
     rintro _ _ ⟨rfl, rfl⟩
     refine ⟨hS, ?_⟩
     refine AtH_call 7 rfl (by decide +kernel) (by exact rfl) x_call  (child_calls (lv + 1) lv fst i _ rfl (by omega) hlt hroom) ?_
     rintro _ wa ⟨rfl, ka⟩
     have hSa : S wa := hS.kp ka fun h => h
     refine ⟨_, rfl, hSa, ?_⟩
     clear hS
     have hS := hSa
     have ha := h8.kpn (kd.trans ka)
     have za := (kd.trans ka).size
     refine AtH_call 9 rfl (by decide +kernel) (by exact rfl) x_call  (ih lv rfl (fst + i * roomN lv) qs[i] n ch' _ Ds' Dc' Dg ha hwi hnum' (by omega) hn hsmi) ?_
     rintro _ wb ⟨rfl, Ds9, Dc9, h9, hD9, kb⟩
     have hSb : S wb := hS.kp kb (out_kp n6)
     refine ⟨_, rfl, hSb, ?_⟩
     clear hS
     have hS := hSb
     have B10b := ((B10i.kp kd fun h => h).kp ka fun h => h).kp kb (out_kp n10)
     (apply AtH_take 10 rfl (by decide +kernel) (by exact rfl); (focus (intro wx hx; skip; exact x_move (by conv => lhs; whnf))); (focus (exact hS)))
     (apply AtH_take 11 rfl (by decide +kernel) (by exact rfl); (focus (intro wx hx; skip; exact x_extract rfl rfl)); (focus (exact hS)))
     (apply AtH_take 12 rfl (by decide +kernel) (by exact rfl); (focus (intro wx hx; skip; exact x_extract rfl rfl)); (focus (exact hS)))
     refine AtH_take 13 rfl (by decide +kernel) (by exact rfl) (fun wx hx => x_indexAddr_arr rfl rfl (by omega) (by omega)) hS ?_
     have hqw := (cut_fine (key := key) (name := name) (n := n) lv (fst + i * roomN lv) qs[i] ch' 0 hwi hnum' hsmi).2.1
     have hq33 := prC_length hqw
     have hlay := psC_lay (ps := qs) (i := i) (q := (cutP key name lv (fst + i * roomN lv) qs[i] n ch').1.1) hil hwq hqw
     refine H_skip 14 rfl (by decide +kernel) (by exact rfl) (r_storeN (cs := psC qs) (vs := prC (cutP key name lv (fst + i * roomN lv) qs[i] n ch').1.1) rfl rfl B10b hq33 (by rw [Int.toNat_natCast, hq462]; omega) (prC_one _)) ?_
     intro wc ec
     rw [Int.toNat_natCast, Nat.zero_add, hlay] at ec
     have kc : Kp (fun j => j = b10) wb wc := ec.kp (.inl rfl)
     have hSc : S wc := hS.kp kc (by omega)
     refine ⟨hSc, ?_⟩
     clear hS
     have hS := hSc
     (apply AtH_take 15 rfl (by decide +kernel) (by exact rfl); (focus (intro wx hx; skip; exact x_assign (by conv => lhs; whnf))); (focus (exact hS)))
     refine AtH_done (by decide +kernel) ?_
     exact join8 () _ _ ⟨rfl, rfl, rfl, rfl, rfl, rfl, rfl, rfl, rfl, trivial⟩ (fin8 (kd.trans ka) h9 hD9 kb ec)
    ·skip
     rintro _ wa ⟨rfl, ka⟩
     have hSa : S wa := hS.kp ka fun h => h
     refine ⟨_, rfl, hSa, ?_⟩
     clear hS
     have hS := hSa
     refine AtH_val 4 rfl (by decide +kernel) (by exact rfl) (x_load_segN rfl (hseg ((B10i.kp kd fun h => h).kp ka fun h => h)) hi33) hS ?_
     have ha := h8.kpn (kd.trans ka)
     have za := (kd.trans ka).size
     refine AtH_call 9 rfl (by decide +kernel) (by exact rfl) x_call  (ih lv rfl (fst + i * roomN lv) qs[i] n ch' _ Ds' Dc' Dg ha hwi hnum' (by omega) hn hsmi) ?_
     rintro _ wb ⟨rfl, Ds9, Dc9, h9, hD9, kb⟩
     have hSb : S wb := hS.kp kb (out_kp n6)
     refine ⟨_, rfl, hSb, ?_⟩
     clear hS
     have hS := hSb
     have B10b := ((B10i.kp kd fun h => h).kp ka fun h => h).kp kb (out_kp n10)
     (apply AtH_take 10 rfl (by decide +kernel) (by exact rfl); (focus (intro wx hx; skip; exact x_move (by conv => lhs; whnf))); (focus (exact hS)))
     (apply AtH_take 11 rfl (by decide +kernel) (by exact rfl); (focus (intro wx hx; skip; exact x_extract rfl rfl)); (focus (exact hS)))
     (apply AtH_take 12 rfl (by decide +kernel) (by exact rfl); (focus (intro wx hx; skip; exact x_extract rfl rfl)); (focus (exact hS)))
     refine AtH_take 13 rfl (by decide +kernel) (by exact rfl) (fun wx hx => x_indexAddr_arr rfl rfl (by omega) (by omega)) hS ?_
     have hqw := (cut_fine (key := key) (name := name) (n := n) lv (fst + i * roomN lv) qs[i] ch' 0 hwi hnum' hsmi).2.1
     have hq33 := prC_length hqw
     have hlay := psC_lay (ps := qs) (i := i) (q := (cutP key name lv (fst + i * roomN lv) qs[i] n ch').1.1) hil hwq hqw
     refine H_skip 14 rfl (by decide +kernel) (by exact rfl) (r_storeN (cs := psC qs) (vs := prC (cutP key name lv (fst + i * roomN lv) qs[i] n ch').1.1) rfl rfl B10b hq33 (by rw [Int.toNat_natCast, hq462]; omega) (prC_one _)) ?_
     intro wc ec
     rw [Int.toNat_natCast, Nat.zero_add, hlay] at ec
     have kc : Kp (fun j => j = b10) wb wc := ec.kp (.inl rfl)
     have hSc : S wc := hS.kp kc (by omega)
     refine ⟨hSc, ?_⟩
     clear hS
     have hS := hSc
     (apply AtH_take 15 rfl (by decide +kernel) (by exact rfl); (focus (intro wx hx; skip; exact x_assign (by conv => lhs; whnf))); (focus (exact hS)))
     refine AtH_done (by decide +kernel) ?_
     exact join8 () _ _ ⟨rfl, rfl, rfl, rfl, rfl, rfl, rfl, rfl, rfl, trivial⟩ (fin8 (kd.trans ka) h9 hD9 kb ec)
   rintro _ w9 junk4 ⟨B10j, B12j, B5g, B6g, B8g, Ds2, Dc2, h9, hD9, hn9, K9⟩
   have n8' := hn9 b8 (.inr (.inr (.inl rfl)))
   generalize cutP key name lv (fst + i * roomN lv) qs[i] n ch' = R at *
   obtain ⟨⟨q, cq⟩, ch9⟩ := R
   simp only at hst B10j h9 ⊢
   by_cases hcq : cq = 0
   ·subst hcq
    (refine At_seq (At_region ?_); refine s_mv ?_; refine s_neq ?_; refine AtR_nil ?_; refine At_cond_f rfl ?_; refine At_skip (At_inBlock (At_region ?_)); refine s_ad ?_; refine s_mv ?_; refine AtR_nil ?_)
    exact again (i + 1, qs.set i q, ch9) _ _ ⟨rfl, rfl, rfl, rfl, rfl, rfl, rfl, rfl, trivial⟩ ⟨hlt, hst, B10j, B12j, B5g, B6g, B8g, Ds2, Dc2, h9, hD9, hn9, K9⟩ (by simp only; omega)
   ·have hall := hstop (i := i + 1) (by rw [hst]; exact hcq) 14 (by omega)
    rw [hall, hst]
    simp only [if_neg hcq]
    (refine At_seq (At_region ?_); refine s_mv ?_; refine s_neq ?_; refine AtR_nil ?_; refine At_cond_t rfl ?_; refine At_seq (At_region ?_))
    refine s_val (x_build rfl built38_nil) ?_
    (refine s_mv ?_)
    refine AtR_go rfl (G_skip (r_store_all (s := 33) (vs := prC Pr.zero) rfl rfl B8g rfl rfl (prC_one _)) fun wz ez => ?_)
    (refine s_as ?_; refine AtR_nil ?_)
    exact At_ret_cell2 (s := 33) Tryd.func92 rfl rfl ez.blk rfl rfl ⟨rfl, fin h9 n8' hD9 K9 ez⟩
  have hie : i = 14 := by omega
  clear again
  subst hie
  obtain ⟨hsm2, hwq, hq14, hnum'⟩ := hfine 14 2 (by omega) (hsm.mono (by omega))
  rw [hKK] at hsm2 hwq hq14 hnum'
  simp only at hsm2 hwq hq14 hnum'
  rw [hKK]
  simp only [if_true]
  have hq462 := psC_len hwq hq14
  obtain ⟨hm1, hm2⟩ := psC_mkI hwq
  obtain ⟨hm3, hm4⟩ := psC_mkI hw
  rw [hq14, ← K157_eq] at hm1 hm2
  rw [h14, ← K157_eq] at hm3 hm4
  have B10m : Blk w8 b10 157 (0, 0) (mkI K157 (psI qs)) := by rw [← hm1]; exact B10i
  have B12m : Blk w8 b12 157 (0, 0) (mkI K157 (psI ps)) := by rw [← hm3]; exact B12i
  (refine At_seq (At_region ?_); refine s_lss ?_; refine AtR_nil (At_seq ?_); refine At_cond_f rfl ?_; refine At_exit rfl ?_; refine At_seq (At_seq (At_region ?_)); refine s_ld ?_; refine s_ld ?_)
  refine s_val (x_eql_flat rfl rfl hm2.symm hm4.symm) ?_
  by_cases heq : qs = ps
  ·rw [decide_eq_true (show psI qs = psI ps by rw [heq]), if_pos heq]
   (refine AtR_nil ?_; refine At_cond_t rfl ?_; refine At_seq (At_region ?_))
   refine s_val (x_load_all rfl B5f hl33) ?_
   refine AtR_go rfl (G_skip (r_store_all (s := 33) (vs := prC p) rfl rfl B8f hl33 rfl (prC_one _)) fun wz ez => ?_)
   (refine s_as ?_; refine AtR_nil ?_)
   exact At_ret_cell2 (s := 33) Tryd.func92 rfl rfl ez.blk hl33 rfl ⟨rfl, fin h8 n8 hD8 K8 ez⟩
  ·rw [decide_eq_false (fun h => heq (psI_inj hwq hw (by rw [hq14, h14]) h)), if_neg heq]
   (refine AtR_nil ?_; refine At_cond_f rfl ?_; refine At_skip (At_seq (At_region ?_)); refine s_mv ?_)
   refine s_val (x_load_all rfl B5f hl33) ?_
   refine s_call x_call (lose_calls c g sp bo key name ch' p _ h8 hp (hsm2.mono (by omega))) ?_
   rintro _ wa ⟨rfl, Ds3, Dc3, h3a, hD3, ka⟩
   refine ⟨_, rfl, ?_⟩
   have z8 := K8.size
   have B10a := B10i.kp ka (out_kp n10)
   have B6a' := B6f.kp ka (out_kp n6)
   have B8a' := B8f.kp ka (out_kp n8)
   have m8 := out_of hD3 n8 lb8
   have hD3w := chain_D hD3 hD8 z8
   have Ka := chain_K K8 ka hD8
   have la8 := B8a'.lt
   (refine AtR_nil (At_seq (At_region ?_)); refine s_mv ?_)
   refine s_val (x_load_all rfl B10a hq462) ?_
   refine s_val (x_load_all rfl B6a' rfl) ?_
   refine s_call x_call (node_calls c g sp bo key name (ch'.lose p) qs (lv + 1) fst _ h3a hwq hq14 (by omega) (by omega) (Small.lose p hsm2)) ?_
   have hnw := node_wf key name (lv + 1) fst qs (Small.lose p hsm2)
   generalize (ch'.lose p).node key name (lv + 1) fst qs = res at *
   obtain ⟨⟨q2, c2⟩, ch2⟩ := res
   rintro _ wb ⟨rfl, Ds4, Dc4, h4b, hD4, kb⟩
   refine ⟨_, rfl, ?_⟩
   simp only at hnw ⊢
   have hq2 := prC_length hnw
   have B8b := B8a'.kp kb (out_kp m8)
   have za := Ka.size
   (refine s_ex ?_; refine s_ex ?_)
   refine AtR_go rfl (G_skip (r_store_all (s := 33) (vs := prC q2) rfl rfl B8b hq2 rfl (prC_one _)) fun wz ez => ?_)
   (refine s_as ?_; refine AtR_nil ?_)
   exact At_ret_cell2 (s := 33) Tryd.func92 rfl rfl ez.blk hq2 rfl ⟨rfl, fin h4b (out_of hD4 m8 la8) (chain_D hD4 hD3w za) (chain_K Ka kb hD3w) ez⟩
theorem cut_calls (key name : List UInt8) (c g sp bo : Nat) : ∀ lv, lv ≤ 5 → CutAt key name c g sp bo lv
 | 0, h => cut_step key name c g sp bo 0 h fun m hm => by omega
 | lv + 1, h => cut_step key name c g sp bo (lv + 1) h fun m hm => by
  obtain rfl : m = lv := by omega
  exact cut_calls key name c g sp bo m (by omega)
end Go.Proofs.YtfngacepjcdlnaaDoor
