/- Trees: a block put below a place. -/
import Derived.Test.YtfngacepjcdlnaaDoorQMc
set_option linter.unusedVariables false
namespace Go.Mt
open Go Go.Kx Go.Proofs.YtfngacepjcdlnaaDoor
def putP (key name : List UInt8) : Nat → Nat → Pr → Nat → List UInt8 → Ch → (Pr × Nat) × Ch
 | 0, fst, p, _, b, ch => (ch.lose p).save key name 0 fst b
 | lv + 1, fst, p, i, b, ch =>
  match ptsP key name (ch.lose p).st p (lv + 1) fst with
  | none => ((Pr.zero, 13), ch.lose p)
  | some ps =>
   if (putP key name lv (fst + (i - fst) / roomN lv * roomN lv) (ps.getD ((i - fst) / roomN lv) Pr.zero) i b (ch.lose p)).1.2 = 0 then
    (putP key name lv (fst + (i - fst) / roomN lv * roomN lv) (ps.getD ((i - fst) / roomN lv) Pr.zero) i b (ch.lose p)).2.node key name (lv + 1) fst (ps.set ((i - fst) / roomN lv) (putP key name lv (fst + (i - fst) / roomN lv * roomN lv) (ps.getD ((i - fst) / roomN lv) Pr.zero) i b (ch.lose p)).1.1)
   else ((Pr.zero, (putP key name lv (fst + (i - fst) / roomN lv * roomN lv) (ps.getD ((i - fst) / roomN lv) Pr.zero) i b (ch.lose p)).1.2), (putP key name lv (fst + (i - fst) / roomN lv * roomN lv) (ps.getD ((i - fst) / roomN lv) Pr.zero) i b (ch.lose p)).2)
theorem putP_small (key name : List UInt8) : ∀ (lv fst : Nat) (p : Pr) (i : Nat) (b : List UInt8) (ch : Ch) (n : Nat), Small ch (2 * lv + 2 + n) → Small (putP key name lv fst p i b ch).2 n
 | 0, fst, p, i, b, ch, n, h => by
  rw [putP]
  exact Small.save key name 0 fst b (Small.lose p (h.mono (by omega)))
 | lv + 1, fst, p, i, b, ch, n, h => by
  have h1 : Small (ch.lose p) (2 * lv + 2 + (n + 1)) := Small.lose p (h.mono (by omega))
  rw [putP]
  split
  ·exact h1.mono (by omega)
  ·rename_i ps _
   have ih := putP_small key name lv (fst + (i - fst) / roomN lv * roomN lv) (ps.getD ((i - fst) / roomN lv) Pr.zero) i b (ch.lose p) (n + 1) h1
   split
   ·exact Small.node key name (lv + 1) fst _ ih
   ·exact ih.mono (by omega)
theorem putP_wf (key name : List UInt8) : ∀ (lv fst : Nat) (p : Pr) (i : Nat) (b : List UInt8) (ch : Ch), Small ch (2 * lv + 2) → (putP key name lv fst p i b ch).1.1.wf
 | 0, fst, p, i, b, ch, h => by
  rw [putP]
  exact save_wf key name 0 fst b (Small.lose p (h.mono (by omega)))
 | lv + 1, fst, p, i, b, ch, h => by
  have h1 : Small (ch.lose p) (2 * lv + 2 + 1) := Small.lose p (h.mono (by omega))
  rw [putP]
  split
  ·exact zero_wf
  ·rename_i ps _
   have ih := putP_small key name lv (fst + (i - fst) / roomN lv * roomN lv) (ps.getD ((i - fst) / roomN lv) Pr.zero) i b (ch.lose p) 1 h1
   split
   ·exact node_wf key name (lv + 1) fst _ ih
   ·exact zero_wf
theorem ptsP_wf {key name : List UInt8} {st : St} {p : Pr} {lv fst : Nat} {ps : List Pr} (hall : ∀ l ∈ st.b, l.length = 512) (h : ptsP key name st p lv fst = some ps) : (∀ q ∈ ps, q.wf) ∧ ps.length = 14 := by
 unfold ptsP at h
 split at h
 ·obtain rfl := Option.some.inj h
  exact ⟨zeros_wf, rfl⟩
 ·split at h
  ·rename_i b hb
   split at h
   ·obtain rfl := Option.some.inj h
    have hl : b.length = 512 := by
     unfold ldP at hb
     split at hb
     ·rename_i b' hat
      split at hb
      ·obtain rfl := Option.some.inj hb
       unfold St.at at hat
       split at hat
       ·rename_i hc
        obtain rfl := Option.some.inj hat
        have e : st.b.getD (p.sec - 1) [] = st.b[p.sec - 1]'(by omega) := by simp [List.getD, show p.sec - 1 < st.b.length by omega]
        rw [e]; exact hall _ (List.getElem_mem _)
       ·cases hat
      ·cases hb
     ·cases hb
    rw [← ptsTo_all]
    exact ⟨ptsTo_wf hl 14, ptsTo_length b 14⟩
   ·cases h
  ·cases h
theorem hold_lt {lv fst i : Nat} (h1 : fst ≤ i) (h2 : i < fst + roomN (lv + 1)) : (i - fst) / roomN lv < 14 ∧ fst + (i - fst) / roomN lv * roomN lv ≤ i ∧ i < fst + (i - fst) / roomN lv * roomN lv + roomN lv := by
 have hp := roomN_pos lv
 rw [roomN_succ] at h2
 have h3 : (i - fst) / roomN lv < 14 := Nat.div_lt_of_lt_mul (by omega)
 have h4 := Nat.div_mul_le_self (i - fst) (roomN lv)
 have h5 := Nat.lt_div_mul_add hp (a := i - fst)
 exact ⟨h3, by omega, by omega⟩
theorem out_of {w : World} {j : Nat} {Ds Dc Ds' Dc' : Nat → Prop} (h : ∀ j, Ds' j ∨ Dc' j → Ds j ∨ Dc j ∨ w.heap.size ≤ j) (h1 : ¬ Ds j ∧ ¬ Dc j) (hl : j < w.heap.size) : ¬ Ds' j ∧ ¬ Dc' j :=
 ⟨fun hd => (h j (.inl hd)).elim h1.1 fun h => h.elim h1.2 fun h => by omega, fun hd => (h j (.inr hd)).elim h1.1 fun h => h.elim h1.2 fun h => by omega⟩
theorem out_kp {j : Nat} {Ds Dc : Nat → Prop} (h : ¬ Ds j ∧ ¬ Dc j) : ¬ (Ds j ∨ Dc j) := fun hd => hd.elim h.1 h.2
end Go.Mt
namespace Go.Proofs.YtfngacepjcdlnaaDoor
open Go Go.Kx Go.Kr Go.Mt
theorem chain_D {w w4 : World} {Ds Dc Ds4 Dc4 Ds5 Dc5 : Nat → Prop} (h5 : ∀ j, Ds5 j ∨ Dc5 j → Ds4 j ∨ Dc4 j ∨ w4.heap.size ≤ j) (h4 : ∀ j, Ds4 j ∨ Dc4 j → Ds j ∨ Dc j ∨ w.heap.size ≤ j) (hz : w.heap.size ≤ w4.heap.size) : ∀ j, Ds5 j ∨ Dc5 j → Ds j ∨ Dc j ∨ w.heap.size ≤ j := fun j hj => by
 rcases h5 j hj with h1 | h1 | h1
 ·exact h4 j (.inl h1)
 ·exact h4 j (.inr h1)
 ·right; right; omega
theorem chain_K {w w4 w5 : World} {Ds Dc Ds4 Dc4 : Nat → Prop} (k4 : Kp (fun j => Ds j ∨ Dc j) w w4) (k5 : Kp (fun j => Ds4 j ∨ Dc4 j) w4 w5) (h4 : ∀ j, Ds4 j ∨ Dc4 j → Ds j ∨ Dc j ∨ w.heap.size ≤ j) : Kp (fun j => Ds j ∨ Dc j) w w5 :=
 k4.trans' k5 fun j hj => (h4 j hj).elim (fun h => .inl (.inl h)) fun h => h.elim (fun h => .inl (.inr h)) .inr
def PutAt (key name : List UInt8) (c g sp bo lv : Nat) : Prop :=
 ∀ (fst : Nat) (p : Pr) (i : Nat) (l : List UInt8) (a : Option Addr) (cap : Nat) (ch : Ch) (w : World) (Ds Dc Dg Db : Nat → Prop), ChAt w c g sp bo key name ch Ds Dc Dg → p.wf →
  SlE w .u8 a 512 cap (bs8 l) Db → (∀ j, Db j → (¬ Ds j ∧ ¬ Dc j) ∧ j < w.heap.size) → l.length = 512 → fst + roomN lv ≤ 537824 → fst ≤ i → i < fst + roomN lv → Small ch (2 * lv + 2) →
  Calls Tryd.prog 74 #[.pointer (some ⟨c, 0, none⟩), .agg (prC p).toArray, .agg (spC lv fst).toArray, .int .i64 (i : Int), .slice a 512 cap] w fun e w' =>
   e = .returned (.tuple #[.agg (prC (putP key name lv fst p i l ch).1.1).toArray, .int .i64 ((putP key name lv fst p i l ch).1.2 : Int)]) ∧ ChTo w w' c g sp bo key name Ds Dc Dg (putP key name lv fst p i l ch).2
set_option maxRecDepth 100000 in
set_option maxHeartbeats 16000000 in
theorem put_step (key name : List UInt8) (c g sp bo lv : Nat) (hlv : lv ≤ 5) (ih : ∀ m, lv = m + 1 → PutAt key name c g sp bo m) : PutAt key name c g sp bo lv := by
 intro fst p i l a cap ch w Ds Dc Dg Db h hp hs hdb hl hroom hi1 hi2 hsm
 refine calls_at (n := 69) Tryd.func74 rfl rfl (by simp) ?_
 have hl33 := prC_length hp
 have hrp := roomN_pos lv
 (refine At_seq (At_region ?_))
 refine AtR_go rfl (AtG_box rfl fun b6 w1 hb6 e1 => ?_)
 have B6 : Blk w1 b6 38 (0, 0) (prC p) := e1.blk
 have k1 : Kp No w w1 := e1.kp (.inr (by omega))
 clear e1
 refine AtR_go rfl (AtG_box rfl fun b7 w2 hb7 e2 => ?_)
 have B7 : Blk w2 b7 153 (0, 0) [.int .i64 (lv : Int), .int .i64 (fst : Int)] := e2.blk
 have k2 : Kp No w1 w2 := e2.kp (.inr (by omega))
 have z1 := k1.size
 clear e2
 refine AtR_go rfl (AtG_alloc fun b10 w3 hb10 e3 => ?_)
 have B10 : Blk w3 b10 38 (0, 0) z38 := e3.blk
 have k3 : Kp No w2 w3 := e3.kp (.inr (by omega))
 have z2 := k2.size
 clear e3
 have K := (k1.trans k2).trans k3
 have z3 := K.size
 have l6 := B6.lt
 have l7 := B7.lt
 have l10 := B10.lt
 have hno : ∀ j, w.heap.size ≤ j → ¬ Ds j ∧ ¬ Dc j := fun j hj => ⟨fun hd => by have := h.stt.dlt j hd; omega, fun hd => by have := h.clt j hd; omega⟩
 have hnog : ∀ j, w.heap.size ≤ j → ¬ Dg j := fun j hj hd => by have := h.glt j hd; omega
 replace B6 := B6.kp (k2.trans k3) fun h => h
 replace B7 := B7.kp k3 fun h => h
 have h3 := h.kpn K
 have hs3 := hs.kpn K
 (refine s_as ?_; refine AtR_nil (At_seq (At_region ?_)); refine s_mv ?_)
 refine s_val (x_load_all rfl B6 hl33) ?_
 refine s_call x_call (lose_calls c g sp bo key name ch p _ h3 hp (hsm.mono (by omega))) ?_
 rintro _ w4 ⟨rfl, Ds4, Dc4, h4, hD4, k4⟩
 refine ⟨_, rfl, ?_⟩
 have o4 : ∀ j, w.heap.size ≤ j → j < w3.heap.size → ¬ Ds4 j ∧ ¬ Dc4 j := fun j h1 h2 => out_of hD4 (hno j h1) h2
 have B6a := B6.kp k4 (out_kp (hno b6 (by omega)))
 have B7a := B7.kp k4 (out_kp (hno b7 (by omega)))
 have B10a := B10.kp k4 (out_kp (hno b10 (by omega)))
 have hs4 : SlE w4 .u8 a 512 cap (bs8 l) Db := hs3.kp k4 fun j hj => out_kp (hdb j hj).1
 have hdb4 : ∀ j, Db j → (¬ Ds4 j ∧ ¬ Dc4 j) ∧ j < w4.heap.size := fun j hj => ⟨out_of hD4 (hdb j hj).1 (by have := (hdb j hj).2; omega), by have := (hdb j hj).2; have := k4.size; omega⟩
 have hD4w : ∀ j, Ds4 j ∨ Dc4 j → Ds j ∨ Dc j ∨ w.heap.size ≤ j := fun j hj => (hD4 j hj).imp id fun h => h.imp id fun h => by omega
 have K4 : Kp (fun j => Ds j ∨ Dc j) w w4 := (K.mono fun _ h => h.elim).trans k4
 have z4 := k4.size
 clear B6 B7 B10 hs3 h3 k1 k2 k3 hs
 have fin : ∀ {w5 w6 : World} {Ds5 Dc5 : Nat → Prop} {ch5 : Ch} {q : Pr}, ChAt w5 c g sp bo key name ch5 Ds5 Dc5 Dg → (¬ Ds5 b10 ∧ ¬ Dc5 b10) → (∀ j, Ds5 j ∨ Dc5 j → Ds j ∨ Dc j ∨ w.heap.size ≤ j) → Kp (fun j => Ds j ∨ Dc j) w w5 → Eff w5 w6 b10 (.cells (prC q).toArray 38 (0, 0)) → ChTo w w6 c g sp bo key name Ds Dc Dg ch5 := fun {w5 w6 Ds5 Dc5 ch5 q} h5 hn hD k e => by
  have k6 : Kp (fun j => j = b10) w5 w6 := e.kp (.inl rfl)
  exact ⟨Ds5, Dc5, h5.kp k6 (by rintro j rfl; exact ⟨hn.1, hn.2, hnog _ (by omega)⟩), hD, k.trans' k6 (by rintro j rfl; right; omega)⟩
 cases lv with
 | zero =>
  rw [putP]
  have hsm1 : Small (ch.lose p) 1 := Small.lose p (hsm.mono (by omega))
  (refine AtR_nil (At_seq (At_seq (At_region ?_))); refine s_fa ?_; refine s_ld ?_; refine s_eql ?_; refine AtR_nil ?_; refine At_cond_t rfl ?_; refine At_seq (At_region ?_); refine s_mv ?_; refine s_mv ?_)
  refine s_val (x_load_all rfl B7a rfl) ?_
  refine s_call x_call (save_calls c g sp bo key name (ch.lose p) l 0 fst a 512 cap _ h4 hs4 (fun j hj => (hdb4 j hj).1) hl (by omega) (by omega) hsm1) ?_
  have hqw := save_wf key name 0 fst l hsm1
  generalize (ch.lose p).save key name 0 fst l = res at *
  obtain ⟨⟨q, cd⟩, ch'⟩ := res
  rintro _ w5 ⟨rfl, Ds5, Dc5, h5, hD5, k5⟩
  refine ⟨_, rfl, ?_⟩
  simp only at hqw ⊢
  have hq33 := prC_length hqw
  have o10 := o4 b10 (by omega) l10
  have B10b := B10a.kp k5 (out_kp o10)
  (refine s_ex ?_; refine s_ex ?_)
  refine AtR_go rfl (G_skip (r_store_all (s := 33) (vs := prC q) rfl rfl B10b hq33 rfl (prC_one _)) fun w6 e6 => ?_)
  (refine s_as ?_; refine AtR_nil ?_)
  have z5 := k5.size
  refine At_ret_cell2 (s := 33) Tryd.func74 rfl rfl e6.blk hq33 rfl ⟨rfl, fin h5 (out_of hD5 o10 (by omega)) (fun j hj => ?_) (K4.trans' k5 fun j hj => ?_) e6⟩
  ·rcases hD5 j hj with h1 | h1 | h1
   ·exact hD4w j (.inl h1)
   ·exact hD4w j (.inr h1)
   ·right; right; omega
  ·rcases hj with h1 | h1
   ·exact (hD4w j (.inl h1)).elim (fun h => .inl (.inl h)) fun h => h.elim (fun h => .inl (.inr h)) fun h => .inr h
   ·exact (hD4w j (.inr h1)).elim (fun h => .inl (.inl h)) fun h => h.elim (fun h => .inl (.inr h)) fun h => .inr h
 | succ lv =>
  rw [putP]
  obtain ⟨hk14, hkf1, hkf2⟩ := hold_lt hi1 hi2
  have hr1 := roomN_le (d := lv) (by omega)
  obtain ⟨k, hk⟩ : ∃ k, k = (i - fst) / roomN lv := ⟨_, rfl⟩
  rw [← hk] at hk14 hkf1 hkf2 ⊢
  have hsm1 : Small (ch.lose p) (2 * lv + 2 + 1) := Small.lose p (hsm.mono (by omega))
  obtain ⟨ps, cd, hcase, hw, h14⟩ : ∃ ps cd, ((ptsP key name (ch.lose p).st p (lv + 1) fst = some ps ∧ cd = 0) ∨ (ptsP key name (ch.lose p).st p (lv + 1) fst = none ∧ ps = zeros ∧ cd = 13)) ∧ (∀ q ∈ ps, q.wf) ∧ ps.length = 14 := by
   cases hpt : ptsP key name (ch.lose p).st p (lv + 1) fst with
   | some ps => exact ⟨ps, 0, .inl ⟨rfl, rfl⟩, ptsP_wf h4.stt.all hpt⟩
   | none => exact ⟨zeros, 13, .inr ⟨rfl, rfl, rfl⟩, zeros_wf, rfl⟩
  have h462 := psC_len hw h14
  have hcall : ∀ {wx : World}, Kp No w4 wx → Calls Tryd.prog 79 #[.pointer (some ⟨g, 0, none⟩), .agg (prC p).toArray, .agg (spC (lv + 1) fst).toArray] wx fun e w' => Kp No wx w' ∧ e = .returned (.tuple #[.agg (psC ps).toArray, .int .i64 (cd : Int)]) := fun {wx} kx => by
   refine (pointers_calls (ch.lose p).st g sp bo key name p (lv + 1) fst wx (h4.gr.kpn kx) (h4.stt.kpn kx) hp (by omega) (by omega)).mono fun e w' hh => ⟨hh.1, ?_⟩
   rcases hcase with ⟨h1, rfl⟩ | ⟨h1, rfl, rfl⟩
   ·rw [h1] at hh; exact hh.2
   ·rw [h1] at hh; exact hh.2
  obtain ⟨av, cv, ag, cg, hR4, _⟩ := h4.row
  (refine AtR_nil (At_seq (At_seq (At_region ?_))); refine s_fa ?_; refine s_ld ?_; refine s_eql ?_; refine AtR_nil ?_; refine At_cond_f rfl ?_; refine At_skip (At_seq ?_))
  refine At_meet (σ := Nat) (fun b12 => [(0, .pointer (some ⟨c, 0, none⟩)), (3, .int .i64 (i : Int)), (4, .slice a 512 cap), (6, .pointer (some ⟨b6, 0, none⟩)), (7, .pointer (some ⟨b7, 0, none⟩)), (10, .pointer (some ⟨b10, 0, none⟩)), (12, .pointer (some ⟨b12, 0, none⟩)), (13, .int .i64 (cd : Int))])
   (fun b12 w' => Blk w' b12 157 (0, 0) (psC ps) ∧ w4.heap.size ≤ b12 ∧ Kp No w4 w') ?_ ?_
  rotate_left
  ·intro join
   have kd := Kp.drew (S := No) (w := w4)
   let S : World → Prop := fun w' => Blk w' c 149 (0, 0) [.pointer (some ⟨g, 0, none⟩), .slice av (ch.lose p).saved.length cv, .slice ag (ch.lose p).gone.length cg] ∧ Blk w' b6 38 (0, 0) (prC p) ∧ Blk w' b7 153 (0, 0) (spC (lv + 1) fst)
   have hSk : ∀ {w w'}, S w → Kp No w w' → S w' := fun h k => ⟨h.1.kp k fun h => h, h.2.1.kp k fun h => h, h.2.2.kp k fun h => h⟩
   have hS : S w4.drew := hSk (w := w4) ⟨hR4, B6a, B7a⟩ kd
   refine At_draw S rfl ?_
   (apply AtH_take 0 rfl (by decide +kernel) (by exact rfl); (focus (intro wx hx; skip; exact x_move (by conv => lhs; whnf))); (focus (exact hS)))
   (apply AtH_take 1 rfl (by decide +kernel) (by exact rfl); (focus (intro wx hx; skip; exact x_nilCheck rfl)); (focus (exact hS)))
   (apply AtH_take 2 rfl (by decide +kernel) (by exact rfl); (focus (intro wx hx; skip; exact x_fieldAddrN rfl (by first | exact Nat.zero_add _ | exact Nat.add_zero _ | (simp only [Nat.reduceAdd] <;> rfl) | exact rfl))); (focus (exact hS)))
   refine AtH_take 3 rfl (by decide +kernel) (by exact rfl) (fun wx hx => x_load1 rfl hx.1 rfl) hS ?_
   refine AtH_take 4 rfl (by decide +kernel) (by exact rfl) (fun wx hx => x_load_all rfl hx.2.1 hl33) hS ?_
   refine AtH_take 5 rfl (by decide +kernel) (by exact rfl) (fun wx hx => x_load_all rfl hx.2.2 rfl) hS ?_
   have hz157 : z157.length = 462 := by rw [← psC_zeros]; exact psC_len zeros_wf rfl
   refine AtH_pairX 10 6 rfl rfl (by first | exact .inl (by decide +kernel) | exact .inr (by decide +kernel)) (by exact rfl) (by exact rfl) r_alloc x_call (hcall kd) ?_ ?_
   ·rintro _ w5 ⟨b12, rfl, hb12, e5⟩
    have B12 : Blk w5 b12 157 (0, 0) z157 := e5.blk
    have k5 : Kp No w4.drew w5 := e5.kp (.inr (by omega))
    have zd := kd.size
    have hS5 := hSk hS k5
    refine ⟨hS5, ?_⟩
    clear hS
    have hS := hS5
    refine AtH_call 6 rfl (by decide +kernel) (by exact rfl) x_call  (hcall (kd.trans k5)) ?_
    rintro _ w6 ⟨k6, rfl⟩
    have hS6 := hSk hS k6
    refine ⟨_, rfl, hS6, ?_⟩
    clear hS
    have hS := hS6
    (apply AtH_take 7 rfl (by decide +kernel) (by exact rfl); (focus (intro wx hx; skip; exact x_move (by conv => lhs; whnf))); (focus (exact hS)))
    (apply AtH_take 8 rfl (by decide +kernel) (by exact rfl); (focus (intro wx hx; skip; exact x_extract rfl rfl)); (focus (exact hS)))
    (apply AtH_take 9 rfl (by decide +kernel) (by exact rfl); (focus (intro wx hx; skip; exact x_extract rfl rfl)); (focus (exact hS)))
    refine H_skip 11 rfl (by decide +kernel) (by exact rfl) (r_store_all (s := 462) (vs := psC ps) rfl rfl (B12.kp k6 fun h => h) h462 hz157 (psC_one _)) ?_
    intro w7 e7
    have k7 : Kp (fun j => j = b12) w6 w7 := e7.kp (.inl rfl)
    have hS7 : S w7 := ⟨hS.1.kp k7 (by have := h4.clt c h4.dc; omega), hS.2.1.kp k7 (by omega), hS.2.2.kp k7 (by omega)⟩
    refine ⟨hS7, ?_⟩
    clear hS
    have hS := hS7
    (apply AtH_take 12 rfl (by decide +kernel) (by exact rfl); (focus (intro wx hx; skip; exact x_assign (by conv => lhs; whnf))); (focus (exact hS)))
    refine AtH_done (by decide +kernel) ?_
    exact join b12 _ _ ⟨rfl, rfl, rfl, rfl, rfl, rfl, rfl, rfl, trivial⟩ ⟨e7.blk, by omega, ((kd.trans k5).trans k6).trans' k7 (by rintro j rfl; right; omega)⟩
   ·rintro _ w5 ⟨k5, rfl⟩
    have hS5 := hSk hS k5
    refine ⟨_, rfl, hS5, ?_⟩
    clear hS
    have hS := hS5
    (apply AtH_take 7 rfl (by decide +kernel) (by exact rfl); (focus (intro wx hx; skip; exact x_move (by conv => lhs; whnf))); (focus (exact hS)))
    (apply AtH_take 8 rfl (by decide +kernel) (by exact rfl); (focus (intro wx hx; skip; exact x_extract rfl rfl)); (focus (exact hS)))
    (apply AtH_take 9 rfl (by decide +kernel) (by exact rfl); (focus (intro wx hx; skip; exact x_extract rfl rfl)); (focus (exact hS)))
    refine H_val 10 rfl (by decide +kernel) (by exact rfl) r_alloc ?_
    rintro _ w6 ⟨b12, rfl, hb12, e6⟩
    have B12 : Blk w6 b12 157 (0, 0) z157 := e6.blk
    have k6 : Kp No w5 w6 := e6.kp (.inr (by omega))
    have zd := (kd.trans k5).size
    have hS6 := hSk hS k6
    refine ⟨hS6, ?_⟩
    clear hS
    have hS := hS6
    refine H_skip 11 rfl (by decide +kernel) (by exact rfl) (r_store_all (s := 462) (vs := psC ps) rfl rfl B12 h462 hz157 (psC_one _)) ?_
    intro w7 e7
    have k7 : Kp (fun j => j = b12) w6 w7 := e7.kp (.inl rfl)
    have hS7 : S w7 := ⟨hS.1.kp k7 (by have := h4.clt c h4.dc; omega), hS.2.1.kp k7 (by omega), hS.2.2.kp k7 (by omega)⟩
    refine ⟨hS7, ?_⟩
    clear hS
    have hS := hS7
    (apply AtH_take 12 rfl (by decide +kernel) (by exact rfl); (focus (intro wx hx; skip; exact x_assign (by conv => lhs; whnf))); (focus (exact hS)))
    refine AtH_done (by decide +kernel) ?_
    exact join b12 _ _ ⟨rfl, rfl, rfl, rfl, rfl, rfl, rfl, rfl, trivial⟩ ⟨e7.blk, by omega, ((kd.trans k5).trans k6).trans' k7 (by rintro j rfl; right; omega)⟩
  ·rintro b12 w5 junk ⟨B12, hb12, k5⟩
   have h5 := h4.kpn k5
   have B6b := B6a.kp k5 fun h => h
   have B7b := B7a.kp k5 fun h => h
   have B10b := B10a.kp k5 fun h => h
   have hs5 := hs4.kpn k5
   have z5 := k5.size
   have o10 := o4 b10 (by omega) l10
   have K5 := K4.trans (k5.mono fun _ h => h.elim)
   clear hcall hR4
   rcases hcase with ⟨hpt, rfl⟩ | ⟨hpt, rfl, rfl⟩
   rotate_left
   ·rw [hpt]
    (refine At_seq (At_seq (At_region ?_)); refine s_mv ?_; refine s_neq ?_; refine AtR_nil ?_; refine At_cond_t rfl ?_; refine At_seq (At_region ?_))
    refine s_val (x_build rfl built38_nil) ?_
    (refine s_mv ?_)
    refine AtR_go rfl (G_skip (r_store_all (s := 33) (vs := prC Pr.zero) rfl rfl B10b rfl rfl (prC_one _)) fun w6 e6 => ?_)
    (refine s_as ?_; refine AtR_nil ?_)
    exact At_ret_cell2 (s := 33) Tryd.func74 rfl rfl e6.blk rfl rfl ⟨rfl, fin h5 o10 hD4w K5 e6⟩
   rw [hpt]
   simp only
   (refine At_seq (At_seq (At_region ?_)); refine s_mv ?_; refine s_neq ?_; refine AtR_nil ?_; refine At_cond_f rfl ?_; refine At_skip (At_seq ?_); refine At_region ?_)
   refine s_val (x_load_all rfl B7b rfl) ?_
   (refine s_mv ?_)
   refine s_call x_call (holds_calls (lv + 1) lv fst i _ rfl (by omega) (by omega) hi1) ?_
   rintro _ w6 ⟨rfl, k6⟩
   refine ⟨_, rfl, ?_⟩
   rw [← hk]
   (refine s_as ?_; refine AtR_nil (At_seq ?_); refine At_seq ?_)
   have kd := Kp.drew (S := No) (w := w6)
   have K6 := k6.trans kd
   let S : World → Prop := fun w' => Blk w' b7 153 (0, 0) (spC (lv + 1) fst)
   have hS : S w6.drew := B7b.kp K6 fun h => h
   have B12k := B12.kp K6 fun h => h
   have hkl : k < ps.length := by omega
   have hgk : ps.getD k Pr.zero = ps[k] := by simp [List.getD, hkl]
   have hwk := hw ps[k] (List.getElem_mem hkl)
   rw [hgk]
   have hseg : ∀ {w'}, Blk w' b12 157 (0, 0) (psC ps) → Seg w' b12 (0 + ((k : Nat) : Int).toNat * 33) (prC ps[k]) := fun hB j hj => by
    have := psC_get [] hkl hw (show j < 33 by rw [prC_length hwk] at hj; exact hj)
    rw [List.append_nil] at this
    rw [Int.toNat_natCast, Nat.zero_add, hB.cell, this]
   have hroomk : fst + k * roomN lv + roomN lv ≤ 537824 := by
    have h2 : (k + 1) * roomN lv ≤ 14 * roomN lv := Nat.mul_le_mul_right _ (by omega)
    rw [Nat.add_mul, Nat.one_mul] at h2
    rw [roomN_succ] at hroom
    omega
   refine At_meet (σ := Nat) (fun cq => [(0, .pointer (some ⟨c, 0, none⟩)), (7, .pointer (some ⟨b7, 0, none⟩)), (10, .pointer (some ⟨b10, 0, none⟩)), (12, .pointer (some ⟨b12, 0, none⟩)), (13, .int .i64 (cq : Int))])
    (fun cq w' => ∃ q ch' Ds8 Dc8, putP key name lv (fst + k * roomN lv) ps[k] i l (ch.lose p) = ((q, cq), ch') ∧ q.wf ∧ Small ch' 1 ∧ ChAt w' c g sp bo key name ch' Ds8 Dc8 Dg ∧ Blk w' b12 157 (0, 0) (psC (ps.set k q)) ∧ Blk w' b7 153 (0, 0) (spC (lv + 1) fst) ∧ Blk w' b10 38 (0, 0) z38 ∧
     (¬ Ds8 b12 ∧ ¬ Dc8 b12) ∧ (¬ Ds8 b10 ∧ ¬ Dc8 b10) ∧ (¬ Ds8 b7 ∧ ¬ Dc8 b7) ∧ (∀ j, Ds8 j ∨ Dc8 j → Ds j ∨ Dc j ∨ w.heap.size ≤ j) ∧ Kp (fun j => Ds j ∨ Dc j) w w') ?_ ?_
   rotate_left
   ·intro join8
    refine At_draw S rfl ?_
    (apply AtH_take 0 rfl (by decide +kernel) (by exact rfl); (focus (intro wx hx; skip; exact x_move (by conv => lhs; whnf))); (focus (exact hS)))
    (apply AtH_take 1 rfl (by decide +kernel) (by exact rfl); (focus (intro wx hx; skip; exact x_move (by conv => lhs; whnf))); (focus (exact hS)))
    (apply AtH_take 2 rfl (by decide +kernel) (by exact rfl); (focus (intro wx hx; skip; exact x_move (by conv => lhs; whnf))); (focus (exact hS)))
    (apply AtH_take 6 rfl (by decide +kernel) (by exact rfl); (focus (intro wx hx; skip; exact x_move (by conv => lhs; whnf))); (focus (exact hS)))
    (apply AtH_take 8 rfl (by decide +kernel) (by exact rfl); (focus (intro wx hx; skip; exact x_move (by conv => lhs; whnf))); (focus (exact hS)))
    (apply AtH_take 9 rfl (by decide +kernel) (by exact rfl); (focus (intro wx hx; skip; exact x_move (by conv => lhs; whnf))); (focus (exact hS)))
    refine AtH_take 3 rfl (by decide +kernel) (by exact rfl) (fun wx hx => x_indexAddr_arr rfl rfl (by omega) (by omega)) hS ?_
    refine AtH_take 5 rfl (by decide +kernel) (by exact rfl) (fun wx hx => x_load_all rfl hx rfl) hS ?_
    refine AtH_pairX (Q1 := fun v w1 => v = Value.agg (prC ps[k]).toArray ∧ w1 = w6.drew) 4 7 rfl rfl (by first | exact .inl (by decide +kernel) | exact .inr (by decide +kernel)) (by exact rfl) (by exact rfl) ⟨_, _, x_load_segN rfl (hseg B12k) (prC_length hwk), rfl, rfl⟩ x_call (child_calls (lv + 1) lv fst k _ rfl (by omega) hk14 hroom) ?_ ?_
    ·rintro _ _ ⟨rfl, rfl⟩
     refine ⟨hS, ?_⟩
     refine AtH_call 7 rfl (by decide +kernel) (by exact rfl) x_call  (child_calls (lv + 1) lv fst k _ rfl (by omega) hk14 hroom) ?_
     rintro _ w7 ⟨rfl, k7⟩
     have hS7 : S w7 := hS.kp k7 fun h => h
     refine ⟨_, rfl, hS7, ?_⟩
     clear hS
     have hS := hS7
     have h7 := h5.kpn (K6.trans k7)
     have zk := (K6.trans k7).size
     refine AtH_call 10 rfl (by decide +kernel) (by exact rfl) x_call  (ih lv rfl (fst + k * roomN lv) ps[k] i l a cap (ch.lose p) _ Ds4 Dc4 Dg Db h7 hwk (hs5.kpn (K6.trans k7)) (fun j hj => ⟨(hdb4 j hj).1, by have := (hdb4 j hj).2; omega⟩) hl hroomk hkf1 hkf2 (hsm1.mono (by omega))) ?_
     have hqw := putP_wf key name lv (fst + k * roomN lv) ps[k] i l (ch.lose p) (hsm1.mono (by omega))
     have hqs := putP_small key name lv (fst + k * roomN lv) ps[k] i l (ch.lose p) 1 hsm1
     generalize putP key name lv (fst + k * roomN lv) ps[k] i l (ch.lose p) = res at *
     obtain ⟨⟨q, cq⟩, ch'⟩ := res
     rintro _ w8 ⟨rfl, Ds8, Dc8, h8, hD8, k8⟩
     simp only at hqw hqs ⊢
     have n12 : ¬ Ds4 b12 ∧ ¬ Dc4 b12 := ⟨fun hd => by have := h4.stt.dlt b12 hd; omega, fun hd => by have := h4.clt b12 hd; omega⟩
     have o7 := o4 b7 (by omega) (by omega)
     have hS8 : S w8 := hS.kp k8 (out_kp o7)
     refine ⟨_, rfl, hS8, ?_⟩
     clear hS
     have hS := hS8
     have B12l := (B12k.kp k7 fun h => h).kp k8 (out_kp n12)
     (apply AtH_take 11 rfl (by decide +kernel) (by exact rfl); (focus (intro wx hx; skip; exact x_move (by conv => lhs; whnf))); (focus (exact hS)))
     (apply AtH_take 12 rfl (by decide +kernel) (by exact rfl); (focus (intro wx hx; skip; exact x_extract rfl rfl)); (focus (exact hS)))
     (apply AtH_take 13 rfl (by decide +kernel) (by exact rfl); (focus (intro wx hx; skip; exact x_extract rfl rfl)); (focus (exact hS)))
     refine AtH_take 14 rfl (by decide +kernel) (by exact rfl) (fun wx hx => x_indexAddr_arr rfl rfl (by omega) (by omega)) hS ?_
     have hq33 := prC_length hqw
     have hlay := psC_lay (ps := ps) (i := k) (q := q) hkl hw hqw
     refine H_skip 15 rfl (by decide +kernel) (by exact rfl) (r_storeN (cs := psC ps) (vs := prC q) rfl rfl B12l hq33 (by rw [Int.toNat_natCast, h462]; omega) (prC_one _)) ?_
     intro w9 e9
     rw [Int.toNat_natCast, Nat.zero_add, hlay] at e9
     have B12c : Blk w9 b12 157 (0, 0) (psC (ps.set k q)) := e9.blk
     have k9 : Kp (fun j => j = b12) w8 w9 := e9.kp (.inl rfl)
     have h712 : b7 ≠ b12 := by omega
     have hS9 : S w9 := hS.kp k9 h712
     refine ⟨hS9, ?_⟩
     clear hS
     have hS := hS9
     (apply AtH_take 16 rfl (by decide +kernel) (by exact rfl); (focus (intro wx hx; skip; exact x_assign (by conv => lhs; whnf))); (focus (exact hS)))
     refine AtH_done (by decide +kernel) ?_
     have B10c := ((B10b.kp (K6.trans k7) fun h => h).kp k8 (out_kp o10)).kp k9 (by omega : ¬ b10 = b12)
     have o12' := out_of hD8 n12 (by have := B12.lt; omega)
     have o10' := out_of hD8 o10 (by omega)
     have o7' := out_of hD8 o7 (by omega)
     have hg12 : ¬ Dg b12 := hnog _ (by omega)
     have h9 := h8.kp k9 (by rintro j rfl; exact ⟨o12'.1, o12'.2, hg12⟩)
     have hD8w := chain_D hD8 (fun j hj => hD4w j hj) (by omega)
     have K8 : Kp (fun j => Ds j ∨ Dc j) w w8 := chain_K (K5.trans ((K6.trans k7).mono fun _ h => h.elim)) k8 hD4w
     have K9 := K8.trans' k9 (by rintro j rfl; right; omega)
     have z8 := k8.size
     have z9 := k9.size
     exact join8 cq _ _ ⟨rfl, rfl, rfl, rfl, rfl, trivial⟩ ⟨q, ch', Ds8, Dc8, rfl, hqw, hqs, h9, B12c, hS, B10c, o12', o10', o7', hD8w, K9⟩
    ·rintro _ w7 ⟨rfl, k7⟩
     have hS7 : S w7 := hS.kp k7 fun h => h
     refine ⟨_, rfl, hS7, ?_⟩
     clear hS
     have hS := hS7
     refine AtH_val 4 rfl (by decide +kernel) (by exact rfl) (x_load_segN rfl (hseg (B12k.kp k7 fun h => h)) (prC_length hwk)) hS ?_
     have h7 := h5.kpn (K6.trans k7)
     have zk := (K6.trans k7).size
     refine AtH_call 10 rfl (by decide +kernel) (by exact rfl) x_call  (ih lv rfl (fst + k * roomN lv) ps[k] i l a cap (ch.lose p) _ Ds4 Dc4 Dg Db h7 hwk (hs5.kpn (K6.trans k7)) (fun j hj => ⟨(hdb4 j hj).1, by have := (hdb4 j hj).2; omega⟩) hl hroomk hkf1 hkf2 (hsm1.mono (by omega))) ?_
     have hqw := putP_wf key name lv (fst + k * roomN lv) ps[k] i l (ch.lose p) (hsm1.mono (by omega))
     have hqs := putP_small key name lv (fst + k * roomN lv) ps[k] i l (ch.lose p) 1 hsm1
     generalize putP key name lv (fst + k * roomN lv) ps[k] i l (ch.lose p) = res at *
     obtain ⟨⟨q, cq⟩, ch'⟩ := res
     rintro _ w8 ⟨rfl, Ds8, Dc8, h8, hD8, k8⟩
     simp only at hqw hqs ⊢
     have n12 : ¬ Ds4 b12 ∧ ¬ Dc4 b12 := ⟨fun hd => by have := h4.stt.dlt b12 hd; omega, fun hd => by have := h4.clt b12 hd; omega⟩
     have o7 := o4 b7 (by omega) (by omega)
     have hS8 : S w8 := hS.kp k8 (out_kp o7)
     refine ⟨_, rfl, hS8, ?_⟩
     clear hS
     have hS := hS8
     have B12l := (B12k.kp k7 fun h => h).kp k8 (out_kp n12)
     (apply AtH_take 11 rfl (by decide +kernel) (by exact rfl); (focus (intro wx hx; skip; exact x_move (by conv => lhs; whnf))); (focus (exact hS)))
     (apply AtH_take 12 rfl (by decide +kernel) (by exact rfl); (focus (intro wx hx; skip; exact x_extract rfl rfl)); (focus (exact hS)))
     (apply AtH_take 13 rfl (by decide +kernel) (by exact rfl); (focus (intro wx hx; skip; exact x_extract rfl rfl)); (focus (exact hS)))
     refine AtH_take 14 rfl (by decide +kernel) (by exact rfl) (fun wx hx => x_indexAddr_arr rfl rfl (by omega) (by omega)) hS ?_
     have hq33 := prC_length hqw
     have hlay := psC_lay (ps := ps) (i := k) (q := q) hkl hw hqw
     refine H_skip 15 rfl (by decide +kernel) (by exact rfl) (r_storeN (cs := psC ps) (vs := prC q) rfl rfl B12l hq33 (by rw [Int.toNat_natCast, h462]; omega) (prC_one _)) ?_
     intro w9 e9
     rw [Int.toNat_natCast, Nat.zero_add, hlay] at e9
     have B12c : Blk w9 b12 157 (0, 0) (psC (ps.set k q)) := e9.blk
     have k9 : Kp (fun j => j = b12) w8 w9 := e9.kp (.inl rfl)
     have h712 : b7 ≠ b12 := by omega
     have hS9 : S w9 := hS.kp k9 h712
     refine ⟨hS9, ?_⟩
     clear hS
     have hS := hS9
     (apply AtH_take 16 rfl (by decide +kernel) (by exact rfl); (focus (intro wx hx; skip; exact x_assign (by conv => lhs; whnf))); (focus (exact hS)))
     refine AtH_done (by decide +kernel) ?_
     have B10c := ((B10b.kp (K6.trans k7) fun h => h).kp k8 (out_kp o10)).kp k9 (by omega : ¬ b10 = b12)
     have o12' := out_of hD8 n12 (by have := B12.lt; omega)
     have o10' := out_of hD8 o10 (by omega)
     have o7' := out_of hD8 o7 (by omega)
     have hg12 : ¬ Dg b12 := hnog _ (by omega)
     have h9 := h8.kp k9 (by rintro j rfl; exact ⟨o12'.1, o12'.2, hg12⟩)
     have hD8w := chain_D hD8 (fun j hj => hD4w j hj) (by omega)
     have K8 : Kp (fun j => Ds j ∨ Dc j) w w8 := chain_K (K5.trans ((K6.trans k7).mono fun _ h => h.elim)) k8 hD4w
     have K9 := K8.trans' k9 (by rintro j rfl; right; omega)
     have z8 := k8.size
     have z9 := k9.size
     exact join8 cq _ _ ⟨rfl, rfl, rfl, rfl, rfl, trivial⟩ ⟨q, ch', Ds8, Dc8, rfl, hqw, hqs, h9, B12c, hS, B10c, o12', o10', o7', hD8w, K9⟩
   ·rintro cq w9 junk2 ⟨q, ch', Ds8, Dc8, hpp, hqw, hqs, h9, B12c, B7c, B10c, o12', o10', o7', hD8w, K9⟩
    rw [hpp]
    simp only
    have z9 := K9.size
    by_cases hcq : cq = 0
    ·subst hcq
     simp only [if_true]
     have hws : ∀ x ∈ ps.set k q, x.wf := wf_set hw hqw
     have hls : (ps.set k q).length = 14 := by rw [List.length_set]; exact h14
     (refine At_seq (At_region ?_); refine s_mv ?_; refine s_neq ?_; refine AtR_nil ?_; refine At_cond_f rfl ?_; refine At_skip (At_seq (At_region ?_)); refine s_mv ?_)
     refine s_val (x_load_all rfl B12c (psC_len hws hls)) ?_
     refine s_val (x_load_all rfl B7c rfl) ?_
     refine s_call x_call (node_calls c g sp bo key name ch' (ps.set k q) (lv + 1) fst _ h9 hws hls (by omega) (by omega) hqs) ?_
     have hnw := node_wf key name (lv + 1) fst (ps.set k q) hqs
     generalize ch'.node key name (lv + 1) fst (ps.set k q) = res at *
     obtain ⟨⟨q2, c2⟩, ch2⟩ := res
     rintro _ w10 ⟨rfl, Ds10, Dc10, h10, hD10, k10⟩
     refine ⟨_, rfl, ?_⟩
     simp only at hnw ⊢
     have hq2 := prC_length hnw
     have B10d := B10c.kp k10 (out_kp o10')
     have l10' := B10c.lt
     (refine s_ex ?_; refine s_ex ?_)
     refine AtR_go rfl (G_skip (r_store_all (s := 33) (vs := prC q2) rfl rfl B10d hq2 rfl (prC_one _)) fun w11 e11 => ?_)
     (refine s_as ?_; refine AtR_nil ?_)
     exact At_ret_cell2 (s := 33) Tryd.func74 rfl rfl e11.blk hq2 rfl ⟨rfl, fin h10 (out_of hD10 o10' l10') (chain_D hD10 hD8w z9) (chain_K K9 k10 hD8w) e11⟩
    ·simp only [if_neg hcq]
     (refine At_seq (At_region ?_); refine s_mv ?_; refine s_neq ?_; refine AtR_nil ?_; refine At_cond_t rfl ?_; refine At_seq (At_region ?_))
     refine s_val (x_build rfl built38_nil) ?_
     (refine s_mv ?_)
     refine AtR_go rfl (G_skip (r_store_all (s := 33) (vs := prC Pr.zero) rfl rfl B10c rfl rfl (prC_one _)) fun w10 e10 => ?_)
     (refine s_as ?_; refine AtR_nil ?_)
     exact At_ret_cell2 (s := 33) Tryd.func74 rfl rfl e10.blk rfl rfl ⟨rfl, fin h9 o10' hD8w K9 e10⟩
theorem put_calls (key name : List UInt8) (c g sp bo : Nat) : ∀ lv, lv ≤ 5 → PutAt key name c g sp bo lv
 | 0, h => put_step key name c g sp bo 0 h fun m hm => by omega
 | lv + 1, h => put_step key name c g sp bo (lv + 1) h fun m hm => by
  obtain rfl : m = lv := by omega
  exact put_calls key name c g sp bo m (by omega)
end Go.Proofs.YtfngacepjcdlnaaDoor
