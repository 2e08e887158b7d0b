/- The law PolicyKeys, as a walk. | The law PolicyKeys, of what comes in. -/
import Derived.Test.YtfngacepjcdlnaaDoorMGc
import Derived.Test.YtfngacepjcdlnaaDoorMQb
import Derived.Test.YtfngacepjcdlnaaDoorMKb
set_option linter.unusedVariables false
namespace Go.Proofs.YtfngacepjcdlnaaDoor
open Go Go.Kx Go.Kr
/-- A record under another key. -/
theorem ino_key {ps : List Int} {id id' non : List UInt8} (h : Ino ps id non) (hi : id'.length = 16) : Ino (layI ps 22 (bs8 id')) id' non ∧ unit (layI ps 22 (bs8 id')) = unit ps := by
  have hl : 72 = ps.length := h.len
  have hb : (bs8 id').length = 16 := by simp [hi]
  have t22 : (ps.take 22).length = 22 := by simp; omega
  refine ⟨⟨?_, ?_, ?_⟩, ?_⟩
  · show 72 = _
    rw [layI_length (by omega)]; exact hl
  · unfold layI
    rw [List.append_assoc, List.drop_left' t22, List.take_left' hb]
  · unfold layI
    rw [List.append_assoc, List.drop_append_of_le_length (by omega), List.take_append_of_le_length (by simp; omega), ← h.nonce]
    apply List.ext_getElem?
    intro i
    simp only [List.getElem?_take, List.getElem?_drop]
    split
    · rw [if_pos (by omega)]
    · rfl
  · show (layI ps 22 (bs8 id')).getD 21 0 = ps.getD 21 0
    unfold layI
    rw [List.getD, List.append_assoc, List.getElem?_append_left (by omega), List.getElem?_take, if_pos (by omega)]
    rfl
theorem bs8_inj {l m : List UInt8} (h : bs8 l = bs8 m) : l = m := by
  have := congrArg (List.map fun x : Int => UInt8.ofNat x.toNat) h
  simpa [bs8, ub, Function.comp_def] using this
theorem fits_cross {ps qs : List Int} {id id' non : List UInt8} (h : Ino ps id non) (h' : Ino qs id' non) (hu : unit ps ≠ 0) (hne : id' ≠ id) : fitsS ps qs = 18 := by
  unfold fitsS
  rw [if_neg hu, if_neg]
  intro e
  have := congrArg (fun l => l.drop 1) e
  simp only [pol, List.drop_take, List.drop_drop] at this
  have e2 : (qs.drop 22).take 16 = (ps.drop 22).take 16 := this
  rw [h.key, h'.key] at e2
  exact hne (bs8_inj e2)
theorem stat_other {id id' key : List UInt8} {h : Nat} (hne : id' ≠ id) : stat id' [⟨id, key, h⟩] = 0 := by
  refine stat_zero.2 (hit_false fun j hj => ?_)
  have : j = 0 := by simpa using hj
  subst this
  exact fun e => hne e.symm
theorem der_plain {u : Int} {id non : List UInt8} {L : Ring} {c : UInt8} {n : Nat} {w w' : World} {e : Ending} (h : DerP u id non L c n w e w') (hu : u = 0) : Kp No w w' ∧ e = .returned (.tuple #[.slice none 0 0, .int .i64 0]) := by
  obtain ⟨k, h⟩ := h
  rw [if_pos hu] at h
  exact ⟨k, h⟩
theorem der_no {u : Int} {id non : List UInt8} {L : Ring} {c : UInt8} {n : Nat} {w w' : World} {e : Ending} (h : DerP u id non L c n w e w') (hu : u ≠ 0) (hs : stat id L ≠ 1) : Kp No w w' ∧ e = .returned (.tuple #[.slice none 0 0, .int .i64 16]) := by
  obtain ⟨k, h⟩ := h
  rw [if_neg hu, if_neg hs] at h
  exact ⟨k, h⟩
set_option maxRecDepth 100000 in
set_option maxHeartbeats 8000000 in
theorem keys_row (W : World) (hC : ∃ fz, Blk W 1 243 fz (ints .u64 (ws kSha))) (kx : List UInt8) (a : Option Addr) (len cap : Nat) (hk : Sl W .u8 a len cap (bs8 kx)) (ps : List Int) (oth non : List UInt8) (hI : Ino ps oth non) (rem : Bool) :
    Calls Tryd.prog 12 #[.slice a len cap, V42 ps, .bool rem] W fun e w' => e = .returned (.bool true) ∧ RowKit.Below W.heap.size W w' := by
  have hlk := hk.len_eq
  simp only [bs8_length] at hlk
  subst hlk
  have hpl := hI.len
  have hol := hI.id_len
  have hkn : a = none → kx.length = 0 := fun h => by
    rcases hk.mem with ⟨_, h2⟩ | ⟨b, off, e, _, _⟩
    · have := hk.le; omega
    · rw [h] at e; cases e
  refine calls_at (n := 162) Tryd.func12 rfl rfl (by simp) ?_
  (refine At_seq ?_; refine At_region ?_)
  refine AtR_go rfl (AtG_box rfl fun b4 w1 hb4 e1 => ?_)
  have B4 : Blk w1 b4 42 (0, 0) (mkI K42 ps) := e1.blk
  have K : Kp No W w1 := e1.kp (.inr (by omega))
  clear e1
  (refine s_as ?_; refine AtR_nil ?_; refine At_seq ?_; refine At_seq ?_; refine At_region ?_)
  refine s_call x_call (awake_calls _) ?_
  rintro _ w2 ⟨rfl, k2⟩
  refine ⟨_, rfl, ?_⟩
  replace B4 := B4.kp k2 fun h => h
  replace K := K.trans k2
  clear k2
  by_cases hsh : kx.length < 16 ∨ 64 < kx.length
  · rcases hsh with h | h
    · (refine s_nt ?_; refine s_mv ?_; refine s_yes rfl rfl rfl rfl ?_; refine g_mv ?_; refine s_yes rfl rfl rfl rfl ?_; refine g_ln ?_; refine s_yes rfl rfl rfl rfl ?_; refine g_lss ?_; refine s_pf ?_; refine s_mv ?_; refine s_no rfl rfl rfl rfl ?_; refine s_no rfl rfl rfl rfl ?_; refine s_no rfl rfl rfl rfl ?_; refine s_pt ?_; refine AtR_nil ?_; refine At_cond_t rfl ?_; refine At_seq ?_; refine At_region ?_)
      refine s_call x_call (awake_calls _) ?_
      rintro _ w3 ⟨rfl, k3⟩
      refine ⟨_, rfl, ?_⟩
      (refine s_as ?_; refine AtR_nil ?_)
      refine At_ret1 Tryd.func12 rfl (by conv => lhs; whnf) ?_
      exact ⟨rfl, (K.trans k3).below⟩
    · (refine s_nt ?_; refine s_mv ?_; refine s_yes rfl rfl rfl rfl ?_; refine g_mv ?_; refine s_yes rfl rfl rfl rfl ?_; refine g_ln ?_; refine s_yes rfl rfl rfl rfl ?_; refine g_lss ?_; refine s_pf ?_; refine s_mv ?_; refine s_yes rfl rfl rfl rfl ?_; refine g_mv ?_; refine s_yes rfl rfl rfl rfl ?_; refine g_ln ?_; refine s_yes rfl rfl rfl rfl ?_; refine g_gtr ?_; refine s_pf ?_; refine AtR_nil ?_; refine At_cond_t rfl ?_; refine At_seq ?_; refine At_region ?_)
      refine s_call x_call (awake_calls _) ?_
      rintro _ w3 ⟨rfl, k3⟩
      refine ⟨_, rfl, ?_⟩
      (refine s_as ?_; refine AtR_nil ?_)
      refine At_ret1 Tryd.func12 rfl (by conv => lhs; whnf) ?_
      exact ⟨rfl, (K.trans k3).below⟩
  (refine s_nt ?_; refine s_mv ?_; refine s_yes rfl rfl rfl rfl ?_; refine g_mv ?_; refine s_yes rfl rfl rfl rfl ?_; refine g_ln ?_; refine s_yes rfl rfl rfl rfl ?_; refine g_lss ?_; refine s_pf ?_; refine s_mv ?_; refine s_yes rfl rfl rfl rfl ?_; refine g_mv ?_; refine s_yes rfl rfl rfl rfl ?_; refine g_ln ?_; refine s_yes rfl rfl rfl rfl ?_; refine g_gtr ?_; refine s_pf ?_; refine AtR_nil ?_; refine At_cond_f rfl ?_; refine At_skip ?_; refine At_seq ?_; refine At_region ?_)
  refine s_call x_call (real_calls _) ?_
  rintro _ w3 ⟨bo, rfl, BO, hbo, k3⟩
  refine ⟨_, rfl, ?_⟩
  refine s_call x_call (ring_calls bo _) ?_
  rintro _ w4 ⟨r, rfl, BR, hr, k4⟩
  refine ⟨_, rfl, ?_⟩
  replace B4 := (B4.kp k3 fun h => h).kp k4 fun h => h
  have hrW : W.heap.size ≤ r := Nat.le_trans (K.trans k3).size hr
  replace K := (K.trans k3).trans k4
  have hR := ring_new BR (BO.kp k4 fun h => h) (by obtain ⟨fz, hc⟩ := hC; exact ⟨fz, hc.kp K fun h => h⟩)
  have hDW : ∀ j, (fun j => j = r) j → W.heap.size ≤ j := fun j hj => by simp only at hj; omega
  have n4 : ¬ (fun j => j = r) b4 := fun h => B4.ne BR (by decide) h
  generalize (fun j => j = r) = D0 at hR hDW n4
  clear BR BO k3 k4
  have hidl := idK_length kx
  have hkn' : kx ≠ [] := fun h => hsh (.inl (by rw [h]; simp))
  have hok : addOk (idK kx) kx [] = 0 := by unfold addOk; rw [if_neg hsh, if_neg (by simp)]
  (refine s_mv ?_; refine s_ex ?_; refine s_ex ?_; refine s_as ?_; refine s_as ?_; refine AtR_nil ?_; refine At_seq ?_; refine At_region ?_; refine s_mv ?_; refine s_mv ?_)
  refine s_call x_call (add_calls [] kx a _ cap r bo _ (Dk := fun j => j < W.heap.size) hR Kr.Good.nil ((hk.e fun b hb => hk.lt b hb).kpn K) hkn (fun b hb h => by have := hDW b h; omega)) ?_
  rintro _ w5 ⟨rfl, xs1, D1, hR1, hL1, hD1, k5⟩
  refine ⟨_, rfl, ?_⟩
  simp only [show ents [] = [] from rfl, hok, if_true] at hL1 ⊢
  rw [add_first] at hL1
  have hg1 : Kr.Good (ents xs1) := by rw [hL1, ← add_first]; exact good_add Kr.Good.nil hidl hok
  have hD1W := newD hD1 hDW K.size
  have n4' := notD hD1 n4 B4.lt
  replace B4 := B4.kp k5 n4
  replace K : Kp No W w5 := K.trans' k5 fun j hj => .inr (hDW j hj)
  clear hR hD1 k5 hDW n4
  (refine s_mv ?_; refine s_ex ?_; refine s_ex ?_)
  refine AtR_go rfl (AtG_alloc fun b9 w6 hb9 e6 => ?_)
  have z6 := e6.size
  refine AtR_go rfl (G_skip (r_store_all (s := 16) rfl rfl e6.blk (by simp [hidl]) (by simp [z22]) (ints_one _ _)) fun w7 e7 => ?_)
  have B9 : Blk w7 b9 22 (0, 0) (ints .u8 (bs8 (idK kx))) := e7.blk
  have k7 : Kp No w5 w7 := (e6.kp (S := No) (.inr (by omega))).trans' (e7.kp (S := fun j => j = b9) (.inl rfl)) (by rintro j rfl; right; omega)
  have n9 : ¬ D1 b9 := fun h => by have := hR1.dlt _ h; omega
  clear e6 e7
  replace B4 := B4.kp k7 fun h => h
  replace K := K.trans k7
  replace hR1 := hR1.kpn k7
  clear k7
  (refine s_as ?_; refine AtR_nil ?_; refine At_seq ?_; refine At_seq ?_; refine At_region ?_; refine s_mv ?_; refine s_neq ?_; refine AtR_nil ?_; refine At_cond_f rfl ?_; refine At_skip ?_; refine At_seq ?_; refine At_region ?_; refine s_fa ?_; refine s_fa ?_; refine s_ld ?_)
  have hld : (ps.drop (21 + 1)).take K22.length = bs8 oth := hI.key
  rw [hld]
  refine AtR_go rfl (AtG_alloc fun b11 w8 hb11 e8 => ?_)
  have z8 := e8.size
  have lO : (mkI K22 (bs8 oth)).length = 16 := by rw [mkI_length (by simp [hol]; rfl)]; rfl
  refine AtR_go rfl (G_skip (r_store_all (s := 16) rfl rfl e8.blk lO (by simp [z22]) (mkI_one _ _)) fun w9 e9 => ?_)
  have B11 : Blk w9 b11 22 (0, 0) (mkI K22 (bs8 oth)) := e9.blk
  have k9 : Kp No w7 w9 := (e8.kp (S := No) (.inr (by omega))).trans' (e9.kp (S := fun j => j = b11) (.inl rfl)) (by rintro j rfl; right; omega)
  have n11 : ¬ D1 b11 := fun h => by have := hR1.dlt _ h; omega
  have h911 : b9 ≠ b11 := by have := B9.lt; omega
  clear e8 e9
  replace B4 := B4.kp k9 fun h => h
  replace B9 := B9.kp k9 fun h => h
  replace K := K.trans k9
  replace hR1 := hR1.kpn k9
  clear k9
  (refine AtR_nil ?_; refine At_seq ?_; refine At_region ?_)
  have lI : (mkI K22 (bs8 (idK kx))).length = 16 := by rw [mkI_length (by simp [hidl]; rfl)]; rfl
  refine s_val (x_load_all (cs := mkI K22 (bs8 (idK kx))) rfl (by rw [mkI22 _ (by simp [hidl])]; exact B9) lI) ?_
  (refine s_fa ?_; refine s_fa ?_)
  obtain ⟨hI1, hU1⟩ := ino_key hI hidl
  refine AtR_go rfl (AtG_store_fl (K := K42) (ks := K22) (X := ps) (Y := bs8 (idK kx)) rfl rfl B4 rfl hpl (by simp [hidl]; rfl) rfl fun w10 e10 => ?_)
  have k10 : Kp (fun j => j = b4) w9 w10 := e10.kp (.inl rfl)
  have ob4 : bo ≠ b4 := hR1.ob.ne B4 (by decide)
  have cb4 : 1 ≠ b4 := by obtain ⟨fz, hc⟩ := hR1.con; exact hc.ne B4 (by decide)
  replace B9 := B9.kp k10 (B9.ne B4 (by decide))
  replace B11 := B11.kp k10 (B11.ne B4 (by decide))
  replace hR1 := hR1.kp k10 (by rintro j rfl; exact ⟨n4', ob4.symm, cb4.symm⟩)
  have b4W : W.heap.size ≤ b4 := by omega
  replace K : Kp No W w10 := K.trans' k10 (by rintro j rfl; exact .inr b4W)
  generalize hX : layI ps 22 (bs8 (idK kx)) = X at *
  replace B4 : Blk w10 b4 42 (0, 0) (mkI K42 X) := e10.blk
  clear e10 k10
  (refine AtR_nil ?_; refine At_seq ?_; refine At_seq ?_; refine At_region ?_; refine s_mv ?_; refine AtR_nil ?_)
  refine At_meet (σ := List En × (Nat → Prop)) (fun s => [(0, .slice a kx.length cap), (2, .bool rem), (4, .pointer (some ⟨b4, 0, none⟩)), (7, .pointer (some ⟨r, 0, none⟩)), (9, .pointer (some ⟨b9, 0, none⟩)), (11, .pointer (some ⟨b11, 0, none⟩))])
    (fun s w' => RingAt w' r bo s.1 s.2 ∧ ents s.1 = (if rem then [] else [⟨idK kx, kx, 0⟩]) ∧ ¬ s.2 b4 ∧ (∀ j, s.2 j → W.heap.size ≤ j) ∧ Blk w' b4 42 (0, 0) (mkI K42 X) ∧ Blk w' b9 22 (0, 0) (ints .u8 (bs8 (idK kx))) ∧ Blk w' b11 22 (0, 0) (mkI K22 (bs8 oth)) ∧ Kp No W w') ?_ ?_
  rotate_left
  · intro join
    cases rem with
    | false =>
      (refine At_cond_f rfl ?_; refine At_skip ?_)
      exact join (xs1, D1) _ _ ⟨rfl, rfl, rfl, rfl, rfl, rfl, trivial⟩ ⟨hR1, hL1, n4', hD1W, B4, B9, B11, K⟩
    | true =>
      (refine At_cond_t rfl ?_; refine At_region ?_; refine s_mv ?_)
      refine s_val (x_load_all rfl B9 (by simp [hidl])) ?_
      refine s_call x_call (remove_calls xs1 (idK kx) r bo _ hR1 hg1.sorted hidl) ?_
      rintro _ w11 ⟨rfl, xs2, D2, hR2, hL2, hD2, k11⟩
      refine ⟨_, rfl, ?_⟩
      rw [hL1, one_stat, if_neg hkn', if_pos rfl, one_remove, if_pos rfl] at hL2
      (refine AtR_nil ?_)
      exact join (xs2, D2) _ _ ⟨rfl, rfl, rfl, rfl, rfl, rfl, trivial⟩ ⟨hR2, hL2, notD hD2 n4' B4.lt, newD hD2 hD1W K.size, B4.kp k11 n4', B9.kp k11 n9, B11.kp k11 n11, K.trans' k11 fun j hj => .inr (hD1W j hj)⟩
  clear B4 B9 B11 K hR1 hL1 hg1 hD1W n4' n9 n11
  rintro ⟨xs, D⟩ w12 junk ⟨hR, hL, n4, hDW, B4, B9, B11, K⟩
  simp only at hR hL n4 hDW
  have hX72 := hI1.len
  have hst : stat (idK kx) (ents xs) = if rem then 0 else 1 := by rw [hL]; cases rem <;> simp [one_stat, none_stat, hkn']
  have hg : Kr.Good (ents xs) := by
    rw [hL]
    cases rem
    · rw [if_neg (by simp), ← add_first]; exact good_add Kr.Good.nil hidl hok
    · exact Kr.Good.nil
  (refine At_seq ?_; refine At_region ?_; refine s_mv ?_; refine s_ld ?_)
  have locked : ∀ w, RingAt w r bo xs D → _ := fun w h => locked_calls xs X (idK kx) non r bo w h hg hI1
  by_cases hu : unit X = 0
  · refine s_call x_call ((contents_calls xs X (idK kx) non r bo _ hR hg hI1).mono fun e w' h => der_plain h hu) ?_
    rintro _ w13 ⟨k13, rfl⟩
    refine ⟨_, rfl, ?_⟩
    replace B4 := B4.kp k13 fun h => h
    replace hR := hR.kpn k13
    replace K := K.trans k13
    (refine s_mv ?_; refine s_ex ?_; refine s_ex ?_; refine s_as ?_; refine s_as ?_; refine AtR_nil ?_; refine At_seq ?_; refine At_region ?_; refine s_mv ?_; refine s_ld ?_)
    refine s_call x_call ((names_calls xs X (idK kx) non r bo _ hR hg hI1).mono fun e w' h => der_plain h hu) ?_
    rintro _ w14 ⟨k14, rfl⟩
    refine ⟨_, rfl, ?_⟩
    replace B4 := B4.kp k14 fun h => h
    replace hR := hR.kpn k14
    replace K := K.trans k14
    have hu' : X.getD 21 0 = 0 := hu
    (refine s_mv ?_; refine s_ex ?_; refine s_ex ?_; refine s_as ?_; refine s_as ?_; refine AtR_nil ?_; refine At_seq ?_; refine At_seq ?_; refine At_region ?_; refine s_fa ?_; refine s_fa ?_; refine s_ld ?_; refine s_eql ?_; refine AtR_nil ?_; refine At_cond_t rfl ?_; refine At_seq ?_; refine At_region ?_; refine s_mv ?_; refine s_ld ?_)
    refine s_call x_call (locked _ hR) ?_
    rintro _ w15 ⟨rfl, k15⟩
    refine ⟨_, rfl, ?_⟩
    rw [decide_eq_false (fun h => h.1 hu)]
    (refine s_nt ?_; refine s_mv ?_; refine s_yes rfl rfl rfl rfl ?_; refine g_mv ?_; refine s_yes rfl rfl rfl rfl ?_; refine g_eql ?_; refine s_pt ?_; refine s_mv ?_; refine s_yes rfl rfl rfl rfl ?_; refine g_mv ?_; refine s_yes rfl rfl rfl rfl ?_; refine g_eql ?_; refine s_pt ?_; refine s_mv ?_; refine s_yes rfl rfl rfl rfl ?_; refine g_mv ?_; refine s_yes rfl rfl rfl rfl ?_; refine g_ln ?_; refine s_yes rfl rfl rfl rfl ?_; refine g_eql ?_; refine s_pt ?_; refine s_mv ?_; refine s_yes rfl rfl rfl rfl ?_; refine g_mv ?_; refine s_yes rfl rfl rfl rfl ?_; refine g_ln ?_; refine s_yes rfl rfl rfl rfl ?_; refine g_eql ?_; refine s_pt ?_; refine s_as ?_; refine AtR_nil ?_)
    refine At_ret1 Tryd.func12 rfl (by conv => lhs; whnf) ?_
    exact ⟨rfl, (K.trans k15).below⟩
  have hu' : X.getD 21 0 ≠ 0 := hu
  cases rem with
  | true =>
    have hs1 : stat (idK kx) (ents xs) ≠ 1 := by rw [hst]; simp
    refine s_call x_call ((contents_calls xs X (idK kx) non r bo _ hR hg hI1).mono fun e w' h => der_no h hu hs1) ?_
    rintro _ w13 ⟨k13, rfl⟩
    refine ⟨_, rfl, ?_⟩
    replace B4 := B4.kp k13 fun h => h
    replace hR := hR.kpn k13
    replace K := K.trans k13
    (refine s_mv ?_; refine s_ex ?_; refine s_ex ?_; refine s_as ?_; refine s_as ?_; refine AtR_nil ?_; refine At_seq ?_; refine At_region ?_; refine s_mv ?_; refine s_ld ?_)
    refine s_call x_call ((names_calls xs X (idK kx) non r bo _ hR hg hI1).mono fun e w' h => der_no h hu hs1) ?_
    rintro _ w14 ⟨k14, rfl⟩
    refine ⟨_, rfl, ?_⟩
    replace B4 := B4.kp k14 fun h => h
    replace hR := hR.kpn k14
    replace K := K.trans k14
    (refine s_mv ?_; refine s_ex ?_; refine s_ex ?_; refine s_as ?_; refine s_as ?_; refine AtR_nil ?_; refine At_seq ?_; refine At_seq ?_; refine At_region ?_; refine s_fa ?_; refine s_fa ?_; refine s_ld ?_; refine s_eql ?_; refine AtR_nil ?_; refine At_cond_f rfl ?_; refine At_skip ?_; refine At_seq ?_; refine At_seq ?_; refine At_region ?_; refine s_mv ?_; refine AtR_nil ?_; refine At_cond_t rfl ?_; refine At_seq ?_; refine At_region ?_; refine s_mv ?_; refine s_ld ?_)
    refine s_call x_call (locked _ hR) ?_
    rintro _ w15 ⟨rfl, k15⟩
    refine ⟨_, rfl, ?_⟩
    rw [decide_eq_true ⟨hu, hs1⟩]
    (refine s_mv ?_; refine s_yes rfl rfl rfl rfl ?_; refine g_mv ?_; refine s_yes rfl rfl rfl rfl ?_; refine g_eql ?_; refine s_pt ?_; refine s_mv ?_; refine s_yes rfl rfl rfl rfl ?_; refine g_mv ?_; refine s_yes rfl rfl rfl rfl ?_; refine g_eql ?_; refine s_pt ?_; refine s_mv ?_; refine s_yes rfl rfl rfl rfl ?_; refine g_mv ?_; refine s_yes rfl rfl rfl rfl ?_; refine g_ln ?_; refine s_yes rfl rfl rfl rfl ?_; refine g_eql ?_; refine s_pt ?_; refine s_mv ?_; refine s_yes rfl rfl rfl rfl ?_; refine g_mv ?_; refine s_yes rfl rfl rfl rfl ?_; refine g_ln ?_; refine s_yes rfl rfl rfl rfl ?_; refine g_eql ?_; refine s_pt ?_; refine s_as ?_; refine AtR_nil ?_)
    refine At_ret1 Tryd.func12 rfl (by conv => lhs; whnf) ?_
    exact ⟨rfl, (K.trans k15).below⟩
  | false =>
    have hs1 : stat (idK kx) (ents xs) = 1 := by rw [hst]; simp
    have hke : (ent (idK kx) (ents xs)).key = kx := by rw [hL, if_neg (by simp), one_ent]
    refine s_call x_call ((contents_calls xs X (idK kx) non r bo _ hR hg hI1).mono fun e w' h => der_ok h hu hs1) ?_
    rintro _ w13 ⟨k13, a1, c1, rfl, A1, _⟩
    refine ⟨_, rfl, ?_⟩
    rw [hke] at A1
    replace B4 := B4.kp k13 fun h => h
    replace B9 := B9.kp k13 fun h => h
    replace B11 := B11.kp k13 fun h => h
    replace hR := hR.kpn k13
    replace K := K.trans k13
    clear k13
    (refine s_mv ?_; refine s_ex ?_; refine s_ex ?_; refine s_as ?_; refine s_as ?_; refine AtR_nil ?_; refine At_seq ?_; refine At_region ?_; refine s_mv ?_; refine s_ld ?_)
    refine s_call x_call ((names_calls xs X (idK kx) non r bo _ hR hg hI1).mono fun e w' h => der_ok h hu hs1) ?_
    rintro _ w14 ⟨k14, a2, c2, rfl, A2, _⟩
    refine ⟨_, rfl, ?_⟩
    rw [hke] at A2
    replace B4 := B4.kp k14 fun h => h
    replace B9 := B9.kp k14 fun h => h
    replace B11 := B11.kp k14 fun h => h
    replace A1 := A1.kp k14 fun _ _ h => h
    replace hR := hR.kpn k14
    replace K := K.trans k14
    clear k14
    (refine s_mv ?_; refine s_ex ?_; refine s_ex ?_; refine s_as ?_; refine s_as ?_; refine AtR_nil ?_; refine At_seq ?_; refine At_seq ?_; refine At_region ?_; refine s_fa ?_; refine s_fa ?_; refine s_ld ?_; refine s_eql ?_; refine AtR_nil ?_; refine At_cond_f rfl ?_; refine At_skip ?_; refine At_seq ?_; refine At_seq ?_; refine At_region ?_; refine s_mv ?_; refine AtR_nil ?_; refine At_cond_f rfl ?_; refine At_skip ?_; refine At_seq ?_; refine At_region ?_; refine s_ld ?_)
    refine AtR_go rfl (AtG_alloc fun b16 w15 hb16 e15 => ?_)
    have z15 := e15.size
    refine AtR_go rfl (G_skip (r_store_all (s := 72) rfl rfl e15.blk (by rw [mkI_length hX72]; rfl) rfl (mkI_one _ _)) fun w16 e16 => ?_)
    have BY : Blk w16 b16 42 (0, 0) (mkI K42 X) := e16.blk
    have k16 : Kp No w14 w16 := (e15.kp (S := No) (.inr (by omega))).trans' (e16.kp (S := fun j => j = b16) (.inl rfl)) (by rintro j rfl; right; omega)
    have n16 : ¬ D b16 := fun h => by have := hR.dlt _ h; omega
    have h416 : b4 ≠ b16 := by have := B4.lt; omega
    have W16 : W.heap.size ≤ b16 := by have := K.size; omega
    clear e15 e16
    replace B4 := B4.kp k16 fun h => h
    replace B9 := B9.kp k16 fun h => h
    replace B11 := B11.kp k16 fun h => h
    replace A1 := A1.kp k16 fun _ _ h => h
    replace A2 := A2.kp k16 fun _ _ h => h
    replace hR := hR.kpn k16
    replace K := K.trans k16
    clear k16
    obtain ⟨hIY, hUY⟩ := ino_key hI1 hol
    (refine AtR_nil ?_; refine At_seq ?_; refine At_region ?_)
    refine s_val (x_load_all rfl B11 lO) ?_
    (refine s_fa ?_; refine s_fa ?_)
    refine AtR_go rfl (AtG_store_fl (K := K42) (ks := K22) (X := X) (Y := bs8 oth) rfl rfl BY rfl hX72 (by simp [hol]; rfl) rfl fun w17 e17 => ?_)
    have k17 : Kp (fun j => j = b16) w16 w17 := e17.kp (.inl rfl)
    have obY : bo ≠ b16 := hR.ob.ne BY (by decide)
    have cbY : 1 ≠ b16 := by obtain ⟨fz, hc⟩ := hR.con; exact hc.ne BY (by decide)
    replace B9 := B9.kp k17 (B9.ne BY (by decide))
    replace B11 := B11.kp k17 (B11.ne BY (by decide))
    replace A1 := A1.kp k17 fun j hj h => by obtain ⟨_, hB⟩ := A1.blk_of hj; exact hB.ne BY (by decide) h
    replace A2 := A2.kp k17 fun j hj h => by obtain ⟨_, hB⟩ := A2.blk_of hj; exact hB.ne BY (by decide) h
    replace B4 := B4.kp k17 h416
    replace hR := hR.kp k17 (by rintro j rfl; exact ⟨n16, obY.symm, cbY.symm⟩)
    replace K : Kp No W w17 := K.trans' k17 (by rintro j rfl; exact .inr W16)
    replace BY := e17.blk
    generalize layI X 22 (bs8 oth) = Y at hIY hUY BY
    clear e17 k17
    have hY72 := hIY.len
    have hIl : (mkI K22 (bs8 (idK kx))).length = 16 := lI
    (refine AtR_nil ?_; refine At_seq ?_; refine At_seq ?_; refine At_region ?_)
    refine s_val (x_load_all rfl B11 lO) ?_
    refine s_val (x_load_all (cs := mkI K22 (bs8 (idK kx))) rfl (by rw [mkI22 _ (by simp [hidl])]; exact B9) lI) ?_
    refine s_val (x_neq_flat rfl rfl (by simp [hol]; rfl) (by simp [hidl]; rfl)) ?_
    by_cases ho : oth = idK kx
    · rw [decide_eq_false (fun h => h (by rw [ho]))]
      (refine s_mv ?_; refine s_no rfl rfl rfl rfl ?_; refine s_no rfl rfl rfl rfl ?_; refine s_no rfl rfl rfl rfl ?_; refine s_no rfl rfl rfl rfl ?_; refine s_no rfl rfl rfl rfl ?_; refine s_nou rfl rfl rfl ?_; refine s_nou rfl rfl rfl ?_; refine s_nou rfl rfl rfl ?_; refine s_nou rfl rfl rfl ?_; refine s_no rfl rfl rfl rfl ?_; refine s_pf ?_; refine AtR_nil ?_; refine At_cond_f rfl ?_; refine At_skip ?_; refine At_seq ?_)
      have kd := Kp.drew (S := No) (w := w17)
      have Kd := K.trans kd
      have hRd := hR.kpn kd
      have Bd := B4.kp kd fun h => h
      let S : World → Prop := fun w' => Blk w' b4 42 (0, 0) (mkI K42 X) ∧ SlE w' .u8 a1 64 c1 (bs8 (derive kx 2 non 64)) (fun _ => True) ∧ SlE w' .u8 a2 32 c2 (bs8 (derive kx 3 non 32)) (fun _ => True)
      have hSk : ∀ {w w'}, S w → Kp No w w' → S w' := fun h k => ⟨h.1.kp k fun h => h, h.2.1.kpn k, h.2.2.kpn k⟩
      refine At_draw S rfl ?_
      have hS : S (w17).drew := ⟨Bd, ((A1.kp kd fun _ _ h => h).sl.e fun _ _ => trivial), ((A2.kp kd fun _ _ h => h).sl.e fun _ _ => trivial)⟩
      (apply AtH_take 0 rfl (by decide +kernel) (by exact rfl); (focus (intro wx hx; skip; exact x_move (by conv => lhs; whnf))); (focus (exact hS)))
      -- ready now: 1 load 42 t4
      refine AtH_take 1 rfl (by decide +kernel) rfl (fun wx hx => x_load_flw rfl hx.1 hX72 rfl) hS ?_
      refine AtH_call 2 rfl (by decide +kernel) (by exact rfl) x_call  (locked _ hRd) ?_
      rintro _ wA ⟨rfl, kA⟩
      rw [decide_eq_false (fun h => h.2 hs1)]
      have hSA := hSk hS kA
      refine ⟨_, rfl, hSA, ?_⟩
      clear hS
      have hS := hSA
      (apply AtH_take 3 rfl (by decide +kernel) (by exact rfl); (focus (intro wx hx; skip; exact x_not rfl)); (focus (exact hS)))
      (apply AtH_take 4 rfl (by decide +kernel) (by exact rfl); (focus (intro wx hx; skip; exact x_move (by conv => lhs; whnf))); (focus (exact hS)))
      (apply AtH_take 5 rfl (by decide +kernel) (by exact ⟨_, _, rfl, by decide, rfl, rfl⟩); (focus (intro wx hx; skip; exact x_move (by conv => lhs; whnf))); (focus (exact hS)))
      (apply AtH_bool 6 rfl (by decide +kernel) (by exact ⟨_, _, rfl, by decide, rfl, rfl⟩); (focus (intro wx hx; skip; exact x_eql rfl rfl)); (focus (exact decide_eq_true (by omega))); (focus (exact hS)))
      (apply AtH_take 7 rfl (by decide +kernel) (by exact rfl); (focus (intro wx hx; skip; exact x_pick_t rfl (by conv => lhs; whnf))); (focus (exact hS)))
      (apply AtH_take 8 rfl (by decide +kernel) (by exact rfl); (focus (intro wx hx; skip; exact x_move (by conv => lhs; whnf))); (focus (exact hS)))
      (apply AtH_take 9 rfl (by decide +kernel) (by exact ⟨_, _, rfl, by decide, rfl, rfl⟩); (focus (intro wx hx; skip; exact x_move (by conv => lhs; whnf))); (focus (exact hS)))
      (apply AtH_bool 10 rfl (by decide +kernel) (by exact ⟨_, _, rfl, by decide, rfl, rfl⟩); (focus (intro wx hx; skip; exact x_eql rfl rfl)); (focus (exact decide_eq_true (by omega))); (focus (exact hS)))
      (apply AtH_take 11 rfl (by decide +kernel) (by exact rfl); (focus (intro wx hx; skip; exact x_pick_t rfl (by conv => lhs; whnf))); (focus (exact hS)))
      (apply AtH_take 12 rfl (by decide +kernel) (by exact rfl); (focus (intro wx hx; skip; exact x_move (by conv => lhs; whnf))); (focus (exact hS)))
      (apply AtH_take 13 rfl (by decide +kernel) (by exact ⟨_, _, rfl, by decide, rfl, rfl⟩); (focus (intro wx hx; skip; exact x_move (by conv => lhs; whnf))); (focus (exact hS)))
      (apply AtH_take 15 rfl (by decide +kernel) (by exact ⟨_, _, rfl, by decide, rfl, rfl⟩); (focus (intro wx hx; skip; exact x_move (by conv => lhs; whnf))); (focus (exact hS)))
      (apply AtH_take 16 rfl (by decide +kernel) (by exact ⟨_, _, rfl, by decide, rfl, rfl⟩); (focus (intro wx hx; skip; exact x_fieldAddrN rfl (by first | exact Nat.zero_add _ | exact Nat.add_zero _ | (simp only [Nat.reduceAdd] <;> rfl) | exact rfl))); (focus (exact hS)))
      (apply AtH_take 17 rfl (by decide +kernel) (by exact ⟨_, _, rfl, by decide, rfl, rfl⟩); (focus (intro wx hx; skip; exact x_slice_arr rfl)); (focus (exact hS)))
      -- ready now: 14 convert 31 9 t145, 18 call f22(t147, 2:u8, t149, 64:i64)
      refine AtH_take 14 rfl (by decide +kernel) (by exact ⟨_, _, rfl, by decide, rfl, rfl⟩) (fun wx hx => x_conv_bs rfl hx.2.1) hS ?_
      -- ready now: 18 call f22(t147, 2:u8, t149, 64:i64)
      have KA := Kd.trans kA
      have sn : SlE wA .u8 (some ⟨b4, 5, none⟩) 16 16 (bs8 non) (fun _ => True) := ⟨by simp [hI1.non_len], Nat.le_refl _, by omega, .inr ⟨b4, 5, rfl, hSA.1.lt, trivial, ino_seg hSA.1 hI1⟩⟩
      have sk : SlE wA .u8 a kx.length cap (bs8 kx) (fun _ => True) := (hk.e fun _ _ => trivial).kpn KA
      refine AtH_call 18 rfl (by decide +kernel) (by exact ⟨_, _, rfl, by decide, rfl, rfl⟩) x_call  (derive23_calls kx 2 non 64 _ _ _ _ _ _ _ sk sn (by omega) (by omega) (by omega)) ?_
      rintro _ wB ⟨rfl, kB⟩
      have hSB := hSk hS kB
      refine ⟨_, rfl, hSB, ?_⟩
      clear hS
      have hS := hSB
      refine AtH_bool 19 rfl (by decide +kernel) (by exact ⟨_, _, rfl, by decide, rfl, rfl⟩) (fun wx hx => x_eql_str rfl rfl) (decide_eq_true rfl) hS ?_
      (apply AtH_take 20 rfl (by decide +kernel) (by exact rfl); (focus (intro wx hx; skip; exact x_pick_t rfl (by conv => lhs; whnf))); (focus (exact hS)))
      (apply AtH_take 21 rfl (by decide +kernel) (by exact rfl); (focus (intro wx hx; skip; exact x_move (by conv => lhs; whnf))); (focus (exact hS)))
      (apply AtH_take 22 rfl (by decide +kernel) (by exact ⟨_, _, rfl, by decide, rfl, rfl⟩); (focus (intro wx hx; skip; exact x_move (by conv => lhs; whnf))); (focus (exact hS)))
      (apply AtH_take 24 rfl (by decide +kernel) (by exact ⟨_, _, rfl, by decide, rfl, rfl⟩); (focus (intro wx hx; skip; exact x_move (by conv => lhs; whnf))); (focus (exact hS)))
      (apply AtH_take 25 rfl (by decide +kernel) (by exact ⟨_, _, rfl, by decide, rfl, rfl⟩); (focus (intro wx hx; skip; exact x_fieldAddrN rfl (by first | exact Nat.zero_add _ | exact Nat.add_zero _ | (simp only [Nat.reduceAdd] <;> rfl) | exact rfl))); (focus (exact hS)))
      (apply AtH_take 26 rfl (by decide +kernel) (by exact ⟨_, _, rfl, by decide, rfl, rfl⟩); (focus (intro wx hx; skip; exact x_slice_arr rfl)); (focus (exact hS)))
      -- ready now: 23 convert 31 9 t154, 27 call f22(t156, 3:u8, t158, 32:i64)
      refine AtH_take 23 rfl (by decide +kernel) (by exact ⟨_, _, rfl, by decide, rfl, rfl⟩) (fun wx hx => x_conv_bs rfl hx.2.2) hS ?_
      -- ready now: 27 call f22(t156, 3:u8, t158, 32:i64)
      refine AtH_call 27 rfl (by decide +kernel) (by exact ⟨_, _, rfl, by decide, rfl, rfl⟩) x_call  (derive23_calls kx 3 non 32 _ _ _ _ _ _ _ (sk.kpn kB) (sn.kpn kB) (by omega) (by omega) (by omega)) ?_
      rintro _ wE ⟨rfl, kE⟩
      have hSE := hSk hS kE
      refine ⟨_, rfl, hSE, ?_⟩
      clear hS
      have hS := hSE
      refine AtH_bool 28 rfl (by decide +kernel) (by exact ⟨_, _, rfl, by decide, rfl, rfl⟩) (fun wx hx => x_eql_str rfl rfl) (decide_eq_true rfl) hS ?_
      (apply AtH_take 29 rfl (by decide +kernel) (by exact rfl); (focus (intro wx hx; skip; exact x_pick_t rfl (by conv => lhs; whnf))); (focus (exact hS)))
      (apply AtH_take 30 rfl (by decide +kernel) (by exact rfl); (focus (intro wx hx; skip; exact x_assign (by conv => lhs; whnf))); (focus (exact hS)))
      refine AtH_done (by decide +kernel) ?_
      skip
      refine At_ret1 Tryd.func12 rfl (by conv => lhs; whnf) ?_
      exact ⟨rfl, ((KA.trans kB).trans kE).below⟩
    · rw [decide_eq_true (show bs8 oth ≠ bs8 (idK kx) from fun h => ho (bs8_inj h))]
      have hso : stat oth (ents xs) = 0 := by rw [hL, if_neg (by simp)]; exact stat_other ho
      have huY : unit Y ≠ 0 := by rw [hUY]; exact hu
      (refine s_mv ?_; refine s_yes rfl rfl rfl rfl ?_; refine g_mv ?_; refine s_yes rfl rfl rfl rfl ?_; refine g_ld ?_)
      refine s_yes rfl rfl rfl rfl (g_call x_call (locked_calls xs Y oth non r bo _ hR hg hIY) ?_)
      rintro _ w18 ⟨rfl, k18⟩
      refine ⟨_, rfl, ?_⟩
      rw [decide_eq_true ⟨huY, by rw [hso]; decide⟩]
      replace B4 := B4.kp k18 fun h => h
      replace BY := BY.kp k18 fun h => h
      replace A1 := A1.kp k18 fun _ _ h => h
      replace A2 := A2.kp k18 fun _ _ h => h
      replace hR := hR.kpn k18
      replace K := K.trans k18
      clear k18
      (refine s_yes rfl rfl rfl rfl ?_; refine g_nt ?_; refine s_yes rfl rfl rfl rfl ?_; refine g_mv ?_; refine s_yes rfl rfl rfl rfl ?_; refine g_ld ?_; refine s_yes rfl rfl rfl rfl ?_; refine g_ld ?_)
      refine s_yes rfl rfl rfl rfl (g_call x_call (fits_calls X Y _ hX72 hY72) ?_)
      rintro _ w19 ⟨rfl, k19⟩
      refine ⟨_, rfl, ?_⟩
      rw [fits_cross hI1 hIY hu ho]
      replace B4 := B4.kp k19 fun h => h
      replace A1 := A1.kp k19 fun _ _ h => h
      replace A2 := A2.kp k19 fun _ _ h => h
      replace hR := hR.kpn k19
      replace K := K.trans k19
      clear k19
      (refine s_yes rfl rfl rfl rfl ?_; refine g_neq ?_; refine s_yes rfl rfl rfl rfl ?_; refine g_pf ?_; refine s_pt ?_; refine AtR_nil ?_; refine At_cond_f rfl ?_; refine At_skip ?_; refine At_seq ?_)
      have kd := Kp.drew (S := No) (w := w19)
      have Kd := K.trans kd
      have hRd := hR.kpn kd
      have Bd := B4.kp kd fun h => h
      let S : World → Prop := fun w' => Blk w' b4 42 (0, 0) (mkI K42 X) ∧ SlE w' .u8 a1 64 c1 (bs8 (derive kx 2 non 64)) (fun _ => True) ∧ SlE w' .u8 a2 32 c2 (bs8 (derive kx 3 non 32)) (fun _ => True)
      have hSk : ∀ {w w'}, S w → Kp No w w' → S w' := fun h k => ⟨h.1.kp k fun h => h, h.2.1.kpn k, h.2.2.kpn k⟩
      refine At_draw S rfl ?_
      have hS : S (w19).drew := ⟨Bd, ((A1.kp kd fun _ _ h => h).sl.e fun _ _ => trivial), ((A2.kp kd fun _ _ h => h).sl.e fun _ _ => trivial)⟩
      (apply AtH_take 0 rfl (by decide +kernel) (by exact rfl); (focus (intro wx hx; skip; exact x_move (by conv => lhs; whnf))); (focus (exact hS)))
      -- ready now: 1 load 42 t4
      refine AtH_take 1 rfl (by decide +kernel) rfl (fun wx hx => x_load_flw rfl hx.1 hX72 rfl) hS ?_
      refine AtH_call 2 rfl (by decide +kernel) (by exact rfl) x_call  (locked _ hRd) ?_
      rintro _ wA ⟨rfl, kA⟩
      rw [decide_eq_false (fun h => h.2 hs1)]
      have hSA := hSk hS kA
      refine ⟨_, rfl, hSA, ?_⟩
      clear hS
      have hS := hSA
      (apply AtH_take 3 rfl (by decide +kernel) (by exact rfl); (focus (intro wx hx; skip; exact x_not rfl)); (focus (exact hS)))
      (apply AtH_take 4 rfl (by decide +kernel) (by exact rfl); (focus (intro wx hx; skip; exact x_move (by conv => lhs; whnf))); (focus (exact hS)))
      (apply AtH_take 5 rfl (by decide +kernel) (by exact ⟨_, _, rfl, by decide, rfl, rfl⟩); (focus (intro wx hx; skip; exact x_move (by conv => lhs; whnf))); (focus (exact hS)))
      (apply AtH_bool 6 rfl (by decide +kernel) (by exact ⟨_, _, rfl, by decide, rfl, rfl⟩); (focus (intro wx hx; skip; exact x_eql rfl rfl)); (focus (exact decide_eq_true (by omega))); (focus (exact hS)))
      (apply AtH_take 7 rfl (by decide +kernel) (by exact rfl); (focus (intro wx hx; skip; exact x_pick_t rfl (by conv => lhs; whnf))); (focus (exact hS)))
      (apply AtH_take 8 rfl (by decide +kernel) (by exact rfl); (focus (intro wx hx; skip; exact x_move (by conv => lhs; whnf))); (focus (exact hS)))
      (apply AtH_take 9 rfl (by decide +kernel) (by exact ⟨_, _, rfl, by decide, rfl, rfl⟩); (focus (intro wx hx; skip; exact x_move (by conv => lhs; whnf))); (focus (exact hS)))
      (apply AtH_bool 10 rfl (by decide +kernel) (by exact ⟨_, _, rfl, by decide, rfl, rfl⟩); (focus (intro wx hx; skip; exact x_eql rfl rfl)); (focus (exact decide_eq_true (by omega))); (focus (exact hS)))
      (apply AtH_take 11 rfl (by decide +kernel) (by exact rfl); (focus (intro wx hx; skip; exact x_pick_t rfl (by conv => lhs; whnf))); (focus (exact hS)))
      (apply AtH_take 12 rfl (by decide +kernel) (by exact rfl); (focus (intro wx hx; skip; exact x_move (by conv => lhs; whnf))); (focus (exact hS)))
      (apply AtH_take 13 rfl (by decide +kernel) (by exact ⟨_, _, rfl, by decide, rfl, rfl⟩); (focus (intro wx hx; skip; exact x_move (by conv => lhs; whnf))); (focus (exact hS)))
      (apply AtH_take 15 rfl (by decide +kernel) (by exact ⟨_, _, rfl, by decide, rfl, rfl⟩); (focus (intro wx hx; skip; exact x_move (by conv => lhs; whnf))); (focus (exact hS)))
      (apply AtH_take 16 rfl (by decide +kernel) (by exact ⟨_, _, rfl, by decide, rfl, rfl⟩); (focus (intro wx hx; skip; exact x_fieldAddrN rfl (by first | exact Nat.zero_add _ | exact Nat.add_zero _ | (simp only [Nat.reduceAdd] <;> rfl) | exact rfl))); (focus (exact hS)))
      (apply AtH_take 17 rfl (by decide +kernel) (by exact ⟨_, _, rfl, by decide, rfl, rfl⟩); (focus (intro wx hx; skip; exact x_slice_arr rfl)); (focus (exact hS)))
      -- ready now: 14 convert 31 9 t145, 18 call f22(t147, 2:u8, t149, 64:i64)
      refine AtH_take 14 rfl (by decide +kernel) (by exact ⟨_, _, rfl, by decide, rfl, rfl⟩) (fun wx hx => x_conv_bs rfl hx.2.1) hS ?_
      -- ready now: 18 call f22(t147, 2:u8, t149, 64:i64)
      have KA := Kd.trans kA
      have sn : SlE wA .u8 (some ⟨b4, 5, none⟩) 16 16 (bs8 non) (fun _ => True) := ⟨by simp [hI1.non_len], Nat.le_refl _, by omega, .inr ⟨b4, 5, rfl, hSA.1.lt, trivial, ino_seg hSA.1 hI1⟩⟩
      have sk : SlE wA .u8 a kx.length cap (bs8 kx) (fun _ => True) := (hk.e fun _ _ => trivial).kpn KA
      refine AtH_call 18 rfl (by decide +kernel) (by exact ⟨_, _, rfl, by decide, rfl, rfl⟩) x_call  (derive23_calls kx 2 non 64 _ _ _ _ _ _ _ sk sn (by omega) (by omega) (by omega)) ?_
      rintro _ wB ⟨rfl, kB⟩
      have hSB := hSk hS kB
      refine ⟨_, rfl, hSB, ?_⟩
      clear hS
      have hS := hSB
      refine AtH_bool 19 rfl (by decide +kernel) (by exact ⟨_, _, rfl, by decide, rfl, rfl⟩) (fun wx hx => x_eql_str rfl rfl) (decide_eq_true rfl) hS ?_
      (apply AtH_take 20 rfl (by decide +kernel) (by exact rfl); (focus (intro wx hx; skip; exact x_pick_t rfl (by conv => lhs; whnf))); (focus (exact hS)))
      (apply AtH_take 21 rfl (by decide +kernel) (by exact rfl); (focus (intro wx hx; skip; exact x_move (by conv => lhs; whnf))); (focus (exact hS)))
      (apply AtH_take 22 rfl (by decide +kernel) (by exact ⟨_, _, rfl, by decide, rfl, rfl⟩); (focus (intro wx hx; skip; exact x_move (by conv => lhs; whnf))); (focus (exact hS)))
      (apply AtH_take 24 rfl (by decide +kernel) (by exact ⟨_, _, rfl, by decide, rfl, rfl⟩); (focus (intro wx hx; skip; exact x_move (by conv => lhs; whnf))); (focus (exact hS)))
      (apply AtH_take 25 rfl (by decide +kernel) (by exact ⟨_, _, rfl, by decide, rfl, rfl⟩); (focus (intro wx hx; skip; exact x_fieldAddrN rfl (by first | exact Nat.zero_add _ | exact Nat.add_zero _ | (simp only [Nat.reduceAdd] <;> rfl) | exact rfl))); (focus (exact hS)))
      (apply AtH_take 26 rfl (by decide +kernel) (by exact ⟨_, _, rfl, by decide, rfl, rfl⟩); (focus (intro wx hx; skip; exact x_slice_arr rfl)); (focus (exact hS)))
      -- ready now: 23 convert 31 9 t154, 27 call f22(t156, 3:u8, t158, 32:i64)
      refine AtH_take 23 rfl (by decide +kernel) (by exact ⟨_, _, rfl, by decide, rfl, rfl⟩) (fun wx hx => x_conv_bs rfl hx.2.2) hS ?_
      -- ready now: 27 call f22(t156, 3:u8, t158, 32:i64)
      refine AtH_call 27 rfl (by decide +kernel) (by exact ⟨_, _, rfl, by decide, rfl, rfl⟩) x_call  (derive23_calls kx 3 non 32 _ _ _ _ _ _ _ (sk.kpn kB) (sn.kpn kB) (by omega) (by omega) (by omega)) ?_
      rintro _ wE ⟨rfl, kE⟩
      have hSE := hSk hS kE
      refine ⟨_, rfl, hSE, ?_⟩
      clear hS
      have hS := hSE
      refine AtH_bool 28 rfl (by decide +kernel) (by exact ⟨_, _, rfl, by decide, rfl, rfl⟩) (fun wx hx => x_eql_str rfl rfl) (decide_eq_true rfl) hS ?_
      (apply AtH_take 29 rfl (by decide +kernel) (by exact rfl); (focus (intro wx hx; skip; exact x_pick_t rfl (by conv => lhs; whnf))); (focus (exact hS)))
      (apply AtH_take 30 rfl (by decide +kernel) (by exact rfl); (focus (intro wx hx; skip; exact x_assign (by conv => lhs; whnf))); (focus (exact hS)))
      refine AtH_done (by decide +kernel) ?_
      skip
      refine At_ret1 Tryd.func12 rfl (by conv => lhs; whnf) ?_
      exact ⟨rfl, ((KA.trans kB).trans kE).below⟩
end Go.Proofs.YtfngacepjcdlnaaDoor

namespace Go.Proofs.YtfngacepjcdlnaaDoor
open Go Go.Kx Go.Kr
theorem octs_wf {xs : List Int} (h : ∀ x ∈ xs, (Lit.int .u8 x).wf = true) : ∃ l : List UInt8, xs = bs8 l := by
  obtain ⟨l, e, _⟩ := octs_of (m := xs.length) (xs := xs) (by simp) (fun i k hk => by
    obtain ⟨hi, rfl⟩ : i < xs.length ∧ k = .u8 := by
      rw [List.getElem?_replicate] at hk
      split at hk
      · exact ⟨‹_›, (Option.some.inj hk).symm⟩
      · cases hk
    have hx : xs.getD i 0 = xs[i] := by simp [List.getD, hi]
    rw [hx]
    have := wf_bounds (h _ (List.getElem_mem hi))
    simpa [IntKind.has] using this)
  exact ⟨l, e⟩
theorem octs_part {K : List IntKind} {ps : List Int} {o : Nat} (hl : K.length = ps.length) (hK : (K.drop o).take 16 = List.replicate 16 .u8) (hh : ∀ (i : Nat) (k : IntKind), K[i]? = some k → k.has (ps.getD i 0)) : ∃ l : List UInt8, (ps.drop o).take 16 = bs8 l := by
  have hlen := congrArg List.length hK
  simp at hlen
  obtain ⟨l, e, _⟩ := octs_of (m := 16) (xs := (ps.drop o).take 16) (by simp; omega) (fun i k hk => by
    have hi : i < 16 := by
      rw [List.getElem?_replicate] at hk
      split at hk
      · assumption
      · cases hk
    rw [← hK, List.getElem?_take, if_pos hi, List.getElem?_drop] at hk
    have := hh (o + i) k hk
    rw [show ((ps.drop o).take 16).getD i 0 = ps.getD (o + i) 0 by simp [List.getD, hi]]
    exact this)
  exact ⟨l, e⟩
theorem ino_of {ps : List Int} (hl : K42.length = ps.length) (hh : ∀ (i : Nat) (k : IntKind), K42[i]? = some k → k.has (ps.getD i 0)) : ∃ oth non, Ino ps oth non := by
  obtain ⟨oth, h1⟩ := octs_part (o := 22) hl rfl hh
  obtain ⟨non, h2⟩ := octs_part (o := 5) hl rfl hh
  exact ⟨oth, non, hl, h1, h2⟩
theorem keys_in (W : World) (hC : ∃ fz, Blk W 1 243 fz (ints .u64 (ws kSha))) (a : Option Addr) (len cap : Nat) (z : List Int) (hk : Sl W .u8 a len cap z) (hz : ∀ x ∈ z, (Lit.int .u8 x).wf = true) (ps : List Int) (hl : K42.length = ps.length) (hh : ∀ (i : Nat) (k : IntKind), K42[i]? = some k → k.has (ps.getD i 0)) (rem : Bool) :
    Calls Tryd.prog 12 #[.slice a len cap, .agg (mkI K42 ps).toArray, .bool rem] W fun e w' => e = .returned (.bool true) ∧ RowKit.Below W.heap.size W w' := by
  obtain ⟨kx, rfl⟩ := octs_wf hz
  obtain ⟨oth, non, hI⟩ := ino_of hl hh
  exact keys_row W hC kx a len cap hk ps oth non hI rem
end Go.Proofs.YtfngacepjcdlnaaDoor
