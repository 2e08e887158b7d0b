/- Trees: the sectors of one. -/
import Derived.Test.YtfngacepjcdlnaaDoorQMh
set_option linter.unusedVariables false
namespace Go.Mt
open Go Go.Kx Go.Proofs.YtfngacepjcdlnaaDoor
def szN : Nat → Nat
 | 0 => 1
 | lv + 1 => 14 * szN lv + 1
theorem szN_le : ∀ {lv : Nat}, lv ≤ 5 → szN lv ≤ 579195
 | 0, _ => by decide
 | 1, _ => by decide
 | 2, _ => by decide
 | 3, _ => by decide
 | 4, _ => by decide
 | 5, _ => by decide
theorem catO_len {g : Nat → Option (List Nat)} {n : Nat} (h : ∀ k l, g k = some l → l.length ≤ n) : ∀ {m : Nat} {l : List Nat}, catO g m = some l → l.length ≤ m * n
 | 0, l, e => by rw [catO] at e; obtain rfl := Option.some.inj e; simp
 | m + 1, l, e => by
  rw [catO] at e
  split at e
  ·rename_i a b ha hb
   obtain rfl := Option.some.inj e
   have h1 := catO_len h ha
   have h2 := h m b hb
   rw [List.length_append, Nat.add_mul, Nat.one_mul]; omega
  ·cases e
theorem under_len {key name : List UInt8} {st : St} : ∀ {lv fst : Nat} {p : Pr} {l : List Nat}, underP key name st lv fst p = some l → l.length ≤ szN lv
 | 0, fst, p, l, h => by
  rw [underP] at h
  split at h
  ·obtain rfl := Option.some.inj h; simp
  ·obtain ⟨_, _, rfl⟩ := Option.map_eq_some_iff.1 h; simp [szN]
 | lv + 1, fst, p, l, h => by
  rw [underP] at h
  split at h
  ·obtain rfl := Option.some.inj h; simp
  ·split at h
   ·cases h
   ·obtain ⟨l', h', rfl⟩ := Option.map_eq_some_iff.1 h
    have := catO_len (n := szN lv) (fun k l hl => under_len hl) h'
    simp only [szN, List.length_cons]; omega
def secT (key name : List UInt8) (st : St) (r : Pr) (d : Int) : Nat × List Nat :=
 if ¬ (0 ≤ d ∧ d ≤ 5) then (2, []) else
 match underP key name st d.toNat 0 r with
 | some l => (0, l)
 | none => (13, [])
theorem Tree.secT {key name : List UInt8} {st : St} {r : Pr} {d : Nat} {f : Nat → Option (List UInt8)} {S : List Nat} (h : Tree key name st r d f S) : secT key name st r (d : Int) = (0, S) := by
 have hd := h.le
 unfold Go.Mt.secT
 rw [if_neg (by omega), Int.toNat_natCast, h.rep.under]
end Go.Mt
namespace Go.Proofs.YtfngacepjcdlnaaDoor
open Go Go.Kx Go.Kr Go.Mt
def SecAt (w w' : World) (x : Option (List Nat)) (e : Ending) : Prop :=
 match x with
 | some l => ∃ a cap, e = .returned (.tuple #[.slice a l.length cap, .int .i64 0]) ∧ Own w' 3 1 a l.length cap (ints .i64 (natI l)) ∧ ∀ j, blkOf a j → w.heap.size ≤ j
 | none => ∃ v, e = .returned (.tuple #[v, .int .i64 13])
def UnderAt (key name : List UInt8) (g sp bo lv : Nat) : Prop :=
 ∀ (fst : Nat) (p : Pr) (st : St) (w : World) (Ds Dg : Nat → Prop), GroveAt w g sp bo key name Dg → StAt w sp st Ds → p.wf → fst + roomN lv ≤ 537824 →
  Calls Tryd.prog 86 #[.pointer (some ⟨g, 0, none⟩), .agg (prC p).toArray, .agg (spC lv fst).toArray] w fun e w' => Kp No w w' ∧ SecAt w w' (underP key name st lv fst p) e
set_option maxRecDepth 100000 in
set_option maxHeartbeats 32000000 in
theorem under_step (key name : List UInt8) (g sp bo lv : Nat) (hlv : lv ≤ 5) (ih : ∀ m, lv = m + 1 → UnderAt key name g sp bo m) : UnderAt key name g sp bo lv := by
 intro fst p st w Ds Dg hg hst hp hroom
 refine calls_at (n := 67) Tryd.func86 rfl rfl (by simp) ?_
 have hp33 := prC_length hp
 (refine At_seq (At_region ?_))
 refine AtR_go rfl (AtG_box rfl fun b4 w1 hb4 e1 => ?_)
 have B4 : Blk w1 b4 38 (0, 0) (prC p) := e1.blk
 have k1 : Kp No w w1 := e1.kp (.inr (by omega))
 clear e1
 refine AtR_go rfl (AtG_box rfl fun b5 w2 hb5 e2 => ?_)
 have B5 : Blk w2 b5 153 (0, 0) (spC lv fst) := e2.blk
 have k2 : Kp No w1 w2 := e2.kp (.inr (by omega))
 have z1 := k1.size
 have z2 := k2.size
 have B4a := B4.kp k2 fun h => h
 have K2 := k1.trans k2
 clear e2
 have B4i : Blk w2 b4 38 (0, 0) (.int .i64 (p.sec : Int) :: ints .u8 (bs8 p.mac)) := B4a
 have B5i : Blk w2 b5 153 (0, 0) [.int .i64 (lv : Int), .int .i64 (fst : Int)] := B5
 (refine s_as ?_; refine s_as ?_; refine AtR_nil (At_seq (At_seq (At_region ?_))); refine s_fa ?_; refine s_ld ?_)
 by_cases hs : p.sec = 0
 ·have hu : underP key name st lv fst p = some [] := by cases lv <;> (rw [underP]; exact if_pos hs)
  rw [hu]
  (refine s_eql ?_; refine AtR_nil ?_; refine At_cond_t rfl ?_; refine At_seq (At_region ?_); refine s_as ?_; refine s_as ?_; refine AtR_nil ?_)
  refine At_ret2 Tryd.func86 rfl (by conv => lhs; whnf) (by conv => lhs; whnf) ?_
  exact ⟨K2, none, 0, rfl, Own.nil _ _ _, fun j hj => by simp [blkOf] at hj⟩
 (refine s_eql ?_; refine AtR_nil ?_; refine At_cond_f rfl ?_; refine At_skip (At_seq (At_region ?_)); refine s_fa ?_; refine s_ld ?_)
 refine AtR_go rfl (AtG_buildSlice1 (ops := [_]) rfl rfl (by omega) rfl rfl rfl fun b8 w3 hb8 e3 => ?_)
 have B8 : Blk w3 b8 3 (0, 0) (ints .i64 (natI [p.sec])) := e3.blk
 have k3 : Kp No w2 w3 := e3.kp (.inr (by omega))
 have K3 := K2.trans k3
 have B4b := B4a.kp k3 fun h => h
 have B5b := B5.kp k3 fun h => h
 have B5j := B5i.kp k3 fun h => h
 have O8 : Own w3 3 1 (some ⟨b8, 0, none⟩) 1 1 (ints .i64 (natI [p.sec])) := Blk.own B8 rfl (by simp only [maxLen]; omega)
 clear e3
 (refine s_as ?_; refine AtR_nil (At_seq (At_seq (At_region ?_))); refine s_fa ?_; refine s_ld ?_)
 cases lv with
 | zero =>
  have hu : underP key name st 0 fst p = (ldP key name st p 0 fst).map fun _ => [p.sec] := by rw [underP, if_neg hs]
  rw [hu]
  (refine s_eql ?_; refine AtR_nil ?_; refine At_cond_t rfl ?_; refine At_seq (At_region ?_); refine s_mv ?_)
  refine s_val (x_load_all rfl B4b hp33) ?_
  refine s_val (x_load_all rfl B5b rfl) ?_
  refine s_call x_call (load_calls st g sp bo key name p 0 fst _ (hg.kpn K3) (hst.kpn K3) hp (by omega) (by omega)) ?_
  rintro e w4 ⟨k4, hload⟩
  cases hld : ldP key name st p 0 fst with
  | none =>
   rw [hld] at hload
   simp only at hload ⊢
   subst hload
   refine ⟨_, rfl, ?_⟩
   (refine s_mv ?_; refine s_ex ?_; refine s_ex ?_; refine s_as ?_; refine s_as ?_; refine AtR_nil (At_seq (At_region ?_)); refine s_mv ?_; refine s_mv ?_; refine s_as ?_; refine s_as ?_; refine AtR_nil ?_)
   refine At_ret2 Tryd.func86 rfl (by conv => lhs; whnf) (by conv => lhs; whnf) ?_
   exact ⟨K3.trans k4, _, rfl⟩
  | some l =>
   rw [hld] at hload
   simp only at hload ⊢
   obtain ⟨b, cap, rfl, _⟩ := hload
   refine ⟨_, rfl, ?_⟩
   (refine s_mv ?_; refine s_ex ?_; refine s_ex ?_; refine s_as ?_; refine s_as ?_; refine AtR_nil (At_seq (At_region ?_)); refine s_mv ?_; refine s_mv ?_; refine s_as ?_; refine s_as ?_; refine AtR_nil ?_)
   refine At_ret2 Tryd.func86 rfl (by conv => lhs; whnf) (by conv => lhs; whnf) ?_
   exact ⟨K3.trans k4, some ⟨b8, 0, none⟩, 1, rfl, O8.kp k4 fun _ _ h => h, fun j hj => by simp [blkOf] at hj; omega⟩
 | succ lv =>
  (refine s_eql ?_; refine AtR_nil ?_; refine At_cond_f rfl ?_; refine At_skip (At_seq (At_region ?_)); refine s_mv ?_)
  refine s_val (x_load_all rfl B4b hp33) ?_
  refine s_val (x_load_all rfl B5b rfl) ?_
  refine s_call x_call (pointers_calls st g sp bo key name p (lv + 1) fst _ (hg.kpn K3) (hst.kpn K3) hp (by omega) (by omega)) ?_
  rintro e w4 ⟨k4, hload⟩
  have hz157 : z157.length = 462 := by rw [← psC_zeros]; exact psC_len zeros_wf rfl
  have K4 := K3.trans k4
  have hu : underP key name st (lv + 1) fst p = match ptsP key name st p (lv + 1) fst with
   | none => none
   | some ps => (catO (fun k => underP key name st lv (fst + k * roomN lv) (ps.getD k Pr.zero)) 14).map (p.sec :: ·) := by rw [underP, if_neg hs]; rfl
  rw [hu]
  cases hpt : ptsP key name st p (lv + 1) fst with
  | none =>
   rw [hpt] at hload
   simp only at hload ⊢
   subst hload
   refine ⟨_, rfl, ?_⟩
   (refine s_mv ?_; refine s_ex ?_; refine s_ex ?_)
   refine AtR_go rfl (AtG_alloc fun b11 w5 hb11 e5 => ?_)
   refine AtR_go rfl (G_skip (r_store_all (s := 462) (vs := psC zeros) rfl rfl e5.blk (psC_len zeros_wf rfl) hz157 (psC_one _)) fun w6 e6 => ?_)
   have k6 : Kp No w4 w6 := (e5.kp (S := No) (.inr (by omega))).trans' (e6.kp (S := fun j => j = b11) (.inl rfl)) (by rintro j rfl; right; omega)
   (refine s_as ?_; refine AtR_nil (At_seq (At_seq (At_region ?_))); refine s_mv ?_; refine s_neq ?_; refine AtR_nil ?_; refine At_cond_t rfl ?_; refine At_seq (At_region ?_); refine s_mv ?_; refine s_as ?_; refine s_as ?_; refine AtR_nil ?_)
   refine At_ret2 Tryd.func86 rfl (by conv => lhs; whnf) (by conv => lhs; whnf) ?_
   exact ⟨K4.trans k6, _, rfl⟩
  | some ps =>
   rw [hpt] at hload
   simp only at hload ⊢
   obtain ⟨hw, h14⟩ := ptsP_wf hst.all hpt
   have h462 := psC_len hw h14
   subst hload
   refine ⟨_, rfl, ?_⟩
   (refine s_mv ?_; refine s_ex ?_; refine s_ex ?_)
   refine AtR_go rfl (AtG_alloc fun b11 w5 hb11 e5 => ?_)
   refine AtR_go rfl (G_skip (r_store_all (s := 462) (vs := psC ps) rfl rfl e5.blk h462 hz157 (psC_one _)) fun w6 e6 => ?_)
   have B11 : Blk w6 b11 157 (0, 0) (psC ps) := e6.blk
   have k6 : Kp No w4 w6 := (e5.kp (S := No) (.inr (by omega))).trans' (e6.kp (S := fun j => j = b11) (.inl rfl)) (by rintro j rfl; right; omega)
   have K6 := K4.trans k6
   have O86 := O8.kp (k4.trans k6) fun _ _ h => h
   have B56 := B5b.kp (k4.trans k6) fun h => h
   clear e5 e6
   (refine s_as ?_; refine AtR_nil (At_seq (At_seq (At_region ?_))); refine s_mv ?_; refine s_neq ?_; refine AtR_nil ?_; refine At_cond_f rfl ?_; refine At_skip (At_seq (At_seq ?_)); refine At_region ?_)
   refine s_val (x_load_all rfl B11 h462) ?_
   (refine s_mv ?_; refine AtR_nil (At_block ?_))
   have z8 := K2.size
   refine At_while (fun s : Nat × Option Addr × Nat × List Nat => [(0, .pointer (some ⟨g, 0, none⟩)), (5, .pointer (some ⟨b5, 0, none⟩)), (8, .slice s.2.1 (p.sec :: s.2.2.2).length s.2.2.1), (45, .agg (psC ps).toArray), (46, .int .i64 (s.1 : Int))])
    (fun s w' => s.1 ≤ 14 ∧ catO (fun k => underP key name st lv (fst + k * roomN lv) (ps.getD k Pr.zero)) s.1 = some s.2.2.2 ∧ Own w' 3 1 s.2.1 (p.sec :: s.2.2.2).length s.2.2.1 (ints .i64 (natI (p.sec :: s.2.2.2))) ∧ (∀ j, blkOf s.2.1 j → w.heap.size ≤ j) ∧ Blk w' b5 153 (0, 0) (spC (lv + 1) fst) ∧ Kp No w w')
    (fun s => 14 - s.1) (0, some ⟨b8, 0, none⟩, 1, []) ⟨rfl, rfl, rfl, rfl, rfl, trivial⟩ ⟨by omega, rfl, O86, fun j hj => by simp [blkOf] at hj; omega, B56, K6⟩ ?_
   rintro ⟨i, a, cap, acc⟩ w7 junk ⟨hi, hcat, ho, hf, B57, K7⟩ again
   simp only at hi hcat ho hf B57 again ⊢
   by_cases hlt : i < 14
   ·have hil : i < ps.length := by omega
    have hgi : ps.getD i Pr.zero = ps[i] := by simp [List.getD, hil]
    have hwi := hw ps[i] (List.getElem_mem hil)
    have hi33 := prC_length hwi
    have hkl := kid_le (lv := lv) hlt
    have haccl := catO_len (n := szN lv) (fun k l hl => under_len hl) hcat
    have hszl := szN_le (lv := lv) (by omega)
    have hacc14 : i * szN lv ≤ 14 * szN lv := Nat.mul_le_mul_right _ (by omega)
    (refine At_seq (At_region ?_); refine s_lss ?_; refine AtR_nil (At_seq ?_); refine At_cond_t rfl ?_; refine At_skip (At_seq (At_block (At_seq (At_region ?_)))); refine s_mv ?_)
    refine s_val (x_index_arrN rfl rfl (by omega) (psC_one_of hw hil)) ?_
    refine AtR_go rfl (AtG_alloc fun b14 w8 hb14 e8 => ?_)
    (refine s_as ?_)
    refine AtR_go rfl (G_skip (r_store_all (s := 33) (vs := prC ps[i]) rfl rfl e8.blk hi33 rfl (prC_one _)) fun w9 e9 => ?_)
    have B14 : Blk w9 b14 38 (0, 0) (prC ps[i]) := e9.blk
    have k9 : Kp No w7 w9 := (e8.kp (S := No) (.inr (by omega))).trans' (e9.kp (S := fun j => j = b14) (.inl rfl)) (by rintro j rfl; right; omega)
    clear e8 e9
    (refine AtR_nil (At_seq ?_))
    have kd := Kp.drew (S := No) (w := w9)
    have kk := k9.trans kd
    have B5d := B57.kp kk fun h => h
    let S : World → Prop := fun w' => Blk w' b14 38 (0, 0) (prC ps[i]) ∧ Blk w' b5 153 (0, 0) (spC (lv + 1) fst)
    have hSk : ∀ {w w'}, S w → Kp No w w' → S w' := fun h k => ⟨h.1.kp k fun h => h, h.2.kp k fun h => h⟩
    have hS : S w9.drew := ⟨B14.kp kd fun h => h, B5d⟩
    refine At_draw S rfl ?_
    (apply AtH_take 0 rfl (by decide +kernel) (by exact rfl); (focus (intro wx hx; skip; exact x_move (by conv => lhs; whnf))); (focus (exact hS)))
    (apply AtH_take 3 rfl (by decide +kernel) (by exact rfl); (focus (intro wx hx; skip; exact x_move (by conv => lhs; whnf))); (focus (exact hS)))
    refine AtH_take 1 rfl (by decide +kernel) (by exact rfl) (fun wx hx => x_load_all rfl hx.1 hi33) hS ?_
    refine AtH_take 2 rfl (by decide +kernel) (by exact rfl) (fun wx hx => x_load_all rfl hx.2 rfl) hS ?_
    refine AtH_call 4 rfl (by decide +kernel) (by exact rfl) x_call  (child_calls (lv + 1) lv fst i _ rfl (by omega) hlt hroom) ?_
    rintro _ w10 ⟨rfl, k10⟩
    have hS10 := hSk hS k10
    refine ⟨_, rfl, hS10, ?_⟩
    clear hS
    have hS := hS10
    have K10 := (K7.trans kk).trans k10
    refine AtH_call 5 rfl (by decide +kernel) (by exact rfl) x_call  (ih lv rfl (fst + i * roomN lv) ps[i] st _ Ds Dg (hg.kpn K10) (hst.kpn K10) hwi (by omega)) ?_
    rintro e w11 ⟨k11, hsec⟩
    have hS11 := hSk hS k11
    have hstep : catO (fun k => underP key name st lv (fst + k * roomN lv) (ps.getD k Pr.zero)) (i + 1) = match underP key name st lv (fst + i * roomN lv) ps[i] with
     | some b => some (acc ++ b)
     | none => none := by
     rw [catO, hcat, hgi]
     cases underP key name st lv (fst + i * roomN lv) ps[i] <;> rfl
    have k711 := (kk.trans k10).trans k11
    have K11 := K7.trans k711
    have z7 := K7.size
    have z711 := ((kk.trans k10)).size
    cases hui : underP key name st lv (fst + i * roomN lv) ps[i] with
    | none =>
     rw [hui] at hsec
     obtain ⟨v, rfl⟩ := hsec
     refine ⟨_, rfl, hS11, ?_⟩
     clear hS
     have hS := hS11
     have hall : catO (fun k => underP key name st lv (fst + k * roomN lv) (ps.getD k Pr.zero)) 14 = none := catO_none (i := i) (by rw [hgi]; exact hui) 14 hlt
     rw [hall]
     (apply AtH_take 6 rfl (by decide +kernel) (by exact rfl); (focus (intro wx hx; skip; exact x_move (by conv => lhs; whnf))); (focus (exact hS)))
     (apply AtH_take 7 rfl (by decide +kernel) (by exact rfl); (focus (intro wx hx; skip; exact x_extract rfl rfl)); (focus (exact hS)))
     (apply AtH_take 8 rfl (by decide +kernel) (by exact rfl); (focus (intro wx hx; skip; exact x_extract rfl rfl)); (focus (exact hS)))
     (apply AtH_take 9 rfl (by decide +kernel) (by exact rfl); (focus (intro wx hx; skip; exact x_assign (by conv => lhs; whnf))); (focus (exact hS)))
     (apply AtH_take 10 rfl (by decide +kernel) (by exact rfl); (focus (intro wx hx; skip; exact x_assign (by conv => lhs; whnf))); (focus (exact hS)))
     refine AtH_done (by decide +kernel) ?_
     (refine At_seq (At_seq (At_region ?_)); refine s_mv ?_; refine s_neq ?_; refine AtR_nil ?_; refine At_cond_t rfl ?_; refine At_seq (At_region ?_); refine s_mv ?_; refine s_as ?_; refine s_as ?_; refine AtR_nil ?_)
     refine At_ret2 Tryd.func86 rfl (by conv => lhs; whnf) (by conv => lhs; whnf) ?_
     exact ⟨K11, _, rfl⟩
    | some l =>
     rw [hui] at hsec hstep
     obtain ⟨ax, cx, rfl, hox, hfx⟩ := hsec
     refine ⟨_, rfl, hS11, ?_⟩
     clear hS
     have hS := hS11
     have hll := under_len hui
     (apply AtH_take 6 rfl (by decide +kernel) (by exact rfl); (focus (intro wx hx; skip; exact x_move (by conv => lhs; whnf))); (focus (exact hS)))
     (apply AtH_take 7 rfl (by decide +kernel) (by exact rfl); (focus (intro wx hx; skip; exact x_extract rfl rfl)); (focus (exact hS)))
     (apply AtH_take 8 rfl (by decide +kernel) (by exact rfl); (focus (intro wx hx; skip; exact x_extract rfl rfl)); (focus (exact hS)))
     (apply AtH_take 9 rfl (by decide +kernel) (by exact rfl); (focus (intro wx hx; skip; exact x_assign (by conv => lhs; whnf))); (focus (exact hS)))
     (apply AtH_take 10 rfl (by decide +kernel) (by exact rfl); (focus (intro wx hx; skip; exact x_assign (by conv => lhs; whnf))); (focus (exact hS)))
     refine AtH_done (by decide +kernel) ?_
     have ho11 := ho.kp k711 fun _ _ h => h
     have B511 := B57.kp k711 fun h => h
     (refine At_seq (At_seq (At_region ?_)); refine s_mv ?_; refine s_neq ?_; refine AtR_nil ?_; refine At_cond_f rfl ?_; refine At_skip (At_region ?_); refine s_mv ?_; refine s_mv ?_)
     refine AtR_go rfl (AtG_append (tx := 75) (s := 1) rfl rfl ho11 (hox.sl.src rfl) rfl (by omega) (by simp only [maxLen, List.length_cons]; omega) (by simp only [List.length_cons]; omega) fun a3 c3 w12 ho12 k12 hf12 => ?_)
     have hb5n : ¬ blkOf a b5 := ho11.ne B511 (by decide)
     (refine s_as ?_; refine AtR_nil (At_inBlock (At_region ?_)); refine s_ad ?_; refine s_mv ?_; refine AtR_nil ?_)
     exact again (i + 1, a3, c3, acc ++ l) _ _ ⟨rfl, rfl, by simp only [List.length_cons, List.length_append]; rw [show acc.length + 1 + l.length = acc.length + l.length + 1 by omega]; rfl, rfl, rfl, trivial⟩
      ⟨hlt, hstep, by simp only [List.length_cons, List.length_append]; rw [show acc.length + l.length + 1 = acc.length + 1 + l.length by omega, show natI (p.sec :: (acc ++ l)) = natI (p.sec :: acc) ++ natI l by simp [natI], show ints .i64 (natI (p.sec :: acc) ++ natI l) = ints .i64 (natI (p.sec :: acc)) ++ ints .i64 (natI l) by simp [ints]]; exact ho12,
       fun j hj => by
        rcases hf12 with rfl | ⟨b, rfl, hb⟩
        ·exact hf j hj
        ·simp [blkOf] at hj; have := k11.size; omega, B511.kp k12 hb5n, K11.trans' k12 fun j hj => .inr (hf j hj)⟩ (by simp only; omega)
   have hie : i = 14 := by omega
   clear again
   subst hie
   rw [hcat]
   (refine At_seq (At_region ?_); refine s_lss ?_; refine AtR_nil (At_seq ?_); refine At_cond_f rfl ?_; refine At_exit rfl ?_; refine At_seq (At_region ?_); refine s_mv ?_; refine s_as ?_; refine s_as ?_; refine AtR_nil ?_)
   refine At_ret2 Tryd.func86 rfl (by conv => lhs; whnf) (by conv => lhs; whnf) ?_
   exact ⟨K7, a, cap, rfl, ho, hf⟩
theorem under_calls (key name : List UInt8) (g sp bo : Nat) : ∀ lv, lv ≤ 5 → UnderAt key name g sp bo lv
 | 0, h => under_step key name g sp bo 0 h fun m hm => by omega
 | lv + 1, h => under_step key name g sp bo (lv + 1) h fun m hm => by
  obtain rfl : m = lv := by omega
  exact under_calls key name g sp bo m (by omega)
set_option maxRecDepth 100000 in
set_option maxHeartbeats 16000000 in
theorem Sectors_calls (g sp bo : Nat) (key name : List UInt8) (st : St) (r : Pr) (d : Int) (w : World) {Ds Dg : Nat → Prop} (hg : GroveAt w g sp bo key name Dg) (hst : StAt w sp st Ds) (hr : r.wf) (hd : -9223372036854775808 ≤ d ∧ d ≤ 9223372036854775807) :
  Calls Tryd.prog 39 #[.pointer (some ⟨g, 0, none⟩), .agg (trC r d).toArray] w fun e w' => Kp No w w' ∧ ∃ a cap, e = .returned (.tuple #[.slice a (secT key name st r d).2.length cap, .int .i64 ((secT key name st r d).1 : Int)]) ∧ Own w' 3 1 a (secT key name st r d).2.length cap (ints .i64 (natI (secT key name st r d).2)) ∧ ∀ j, blkOf a j → w.heap.size ≤ j := by
 refine calls_at (n := 25) Tryd.func39 rfl rfl (by simp) ?_
 have hl34 := trC_length hr d
 (refine At_seq (At_region ?_))
 refine AtR_go rfl (AtG_box rfl fun b3 w1 hb3 e1 => ?_)
 have B3 : Blk w1 b3 40 (0, 0) (trC r d) := e1.blk
 have K1 : Kp No w w1 := e1.kp (.inr (by omega))
 clear e1
 (refine s_as ?_; refine s_as ?_; refine AtR_nil (At_seq (At_seq ?_)); refine At_region ?_)
 refine s_val (x_load_all rfl B3 hl34) ?_
 refine s_call x_call (right_calls r d _ hr) ?_
 rintro _ w2 ⟨rfl, k2⟩
 refine ⟨_, rfl, ?_⟩
 have B3a := B3.kp k2 fun h => h
 have K2 := K1.trans k2
 have nil2 : ∀ {wx : World}, Own wx 3 1 none 0 0 (ints .i64 (natI [])) := fun {wx} => Own.nil _ _ _
 by_cases h5 : 0 ≤ d ∧ d ≤ 5
 rotate_left
 ·rw [decide_eq_false h5, show secT key name st r d = (2, []) by unfold secT; rw [if_pos h5]]
  (refine s_nt ?_; refine AtR_nil ?_; refine At_cond_t rfl ?_; refine At_seq (At_region ?_); refine s_as ?_; refine s_as ?_; refine AtR_nil ?_)
  refine At_ret2 Tryd.func39 rfl (by conv => lhs; whnf) (by conv => lhs; whnf) ?_
  exact ⟨K2, none, 0, rfl, nil2, fun j hj => by simp [blkOf] at hj⟩
 rw [decide_eq_true h5]
 obtain ⟨m, rfl⟩ : ∃ m : Nat, d = (m : Int) := ⟨d.toNat, by omega⟩
 have hm5 : m ≤ 5 := by omega
 have hdeep := trC_deep hr (m : Int)
 have hroom := roomN_le hm5
 have hsec : secT key name st r (m : Int) = match underP key name st m 0 r with
  | some l => (0, l)
  | none => (13, []) := by unfold secT; rw [if_neg (by omega), Int.toNat_natCast]
 rw [hsec]
 (refine s_nt ?_; refine AtR_nil ?_; refine At_cond_f rfl ?_; refine At_skip (At_seq (At_region ?_)); refine s_mv ?_; refine s_fa ?_)
 refine s_val (x_load_segN rfl (trC_seg B3a) (prC_length hr)) ?_
 (refine s_fa ?_)
 refine s_val (x_load1 rfl B3a hdeep) ?_
 refine s_val (x_build rfl (built153 (m : Int) 0)) ?_
 refine s_call x_call (under_calls key name g sp bo m hm5 0 r st _ Ds Dg (hg.kpn K2) (hst.kpn K2) hr (by omega)) ?_
 rintro e w3 ⟨k3, hu⟩
 have z2 := K2.size
 cases hun : underP key name st m 0 r with
 | none =>
  rw [hun] at hu
  obtain ⟨v, rfl⟩ := hu
  refine ⟨_, rfl, ?_⟩
  (refine s_mv ?_; refine s_ex ?_; refine s_ex ?_; refine s_as ?_; refine s_as ?_; refine AtR_nil (At_seq (At_seq (At_region ?_))); refine s_mv ?_; refine s_neq ?_; refine AtR_nil ?_; refine At_cond_t rfl ?_; refine At_seq (At_region ?_); refine s_mv ?_; refine s_as ?_; refine s_as ?_; refine AtR_nil ?_)
  refine At_ret2 Tryd.func39 rfl (by conv => lhs; whnf) (by conv => lhs; whnf) ?_
  exact ⟨K2.trans k3, none, 0, rfl, nil2, fun j hj => by simp [blkOf] at hj⟩
 | some l =>
  rw [hun] at hu
  obtain ⟨a, cap, rfl, ho, hf⟩ := hu
  refine ⟨_, rfl, ?_⟩
  (refine s_mv ?_; refine s_ex ?_; refine s_ex ?_; refine s_as ?_; refine s_as ?_; refine AtR_nil (At_seq (At_seq (At_region ?_))); refine s_mv ?_; refine s_neq ?_; refine AtR_nil ?_; refine At_cond_f rfl ?_; refine At_skip (At_seq (At_region ?_)); refine s_mv ?_; refine s_as ?_; refine s_as ?_; refine AtR_nil ?_)
  refine At_ret2 Tryd.func39 rfl (by conv => lhs; whnf) (by conv => lhs; whnf) ?_
  exact ⟨K2.trans k3, a, cap, rfl, ho, fun j hj => by have := hf j hj; omega⟩
end Go.Proofs.YtfngacepjcdlnaaDoor
