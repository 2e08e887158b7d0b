/- Hex, words of texts: walked. -/
import Derived.Test.YtgobmphkakmdmaaDoorUd
set_option linter.unusedVariables false
--@def ST := 15
namespace Go.Proofs.YtgobmphkakmdmaaDoor
open Go Go.Kx Go.Sc
def hexP (c : UInt8) : List UInt8 := [hexD (c >>> 4), hexD (c &&& 15)]
theorem hexS_fin : ∀ q : _root_.Fin 256, ([48, 49, 50, 51, 52, 53, 54, 55, 56, 57, 97, 98, 99, 100, 101, 102] : List UInt8).getD (UInt8.ofNat q.val >>> 4).toNat 0 = hexD (UInt8.ofNat q.val >>> 4) ∧ (UInt8.ofNat q.val >>> 4).toNat < 16 ∧
    ([48, 49, 50, 51, 52, 53, 54, 55, 56, 57, 97, 98, 99, 100, 101, 102] : List UInt8).getD (UInt8.ofNat q.val &&& 15).toNat 0 = hexD (UInt8.ofNat q.val &&& 15) ∧ (UInt8.ofNat q.val &&& 15).toNat < 16 := by decide +kernel
theorem hexS (c : UInt8) : ([48, 49, 50, 51, 52, 53, 54, 55, 56, 57, 97, 98, 99, 100, 101, 102] : List UInt8).getD (c >>> 4).toNat 0 = hexD (c >>> 4) ∧ (c >>> 4).toNat < 16 ∧
    ([48, 49, 50, 51, 52, 53, 54, 55, 56, 57, 97, 98, 99, 100, 101, 102] : List UInt8).getD (c &&& 15).toNat 0 = hexD (c &&& 15) ∧ (c &&& 15).toNat < 16 := by
  obtain ⟨a, rfl⟩ := oct_fin c
  exact hexS_fin a
theorem hexP_len (l : List UInt8) : (l.flatMap hexP).length = 2 * l.length := by
  induction l with
  | nil => rfl
  | cons a l ih => rw [List.flatMap_cons, List.length_append, ih, List.length_cons]; simp [hexP]; omega
set_option maxRecDepth 100000 in
set_option maxHeartbeats 4000000 in
theorem hex_calls (l : List UInt8) (b : Nat) (cap : Nat) (w : World) (hs : Seg w b 0 (ints .u8 (bs8 l))) (hb : b < w.heap.size) (hl : l.length ≤ 1000000) :
    Calls Tryd.prog 39 #[.slice (some ⟨b, 0, none⟩) l.length cap] w fun e w' => e = .returned (strV (l.flatMap hexP)) ∧ Kp No w w' := by
  refine calls_at (n := 22) Tryd.func39 rfl rfl (by simp) ?_
  (refine At_seq ?_; refine At_region ?_; refine s_as ?_; refine AtR_nil ?_; refine At_seq ?_; refine At_region ?_)
  refine AtR_go rfl (G_val r_alloc ?_)
  rintro _ w1 ⟨bo, rfl, hbo, e1⟩
  have h1 : Bd w.heap.size w1 bo [] := Bd.new e1.blk (by omega)
  have k1 : Kp No w w1 := e1.kp (.inr (by omega))
  clear e1
  (refine AtR_nil ?_; refine At_seq ?_; refine At_seq ?_; refine At_region ?_; refine s_mv ?_; refine s_ln ?_; refine s_mv ?_; refine AtR_nil ?_; refine At_block ?_)
  have hlen := hexP_len
  have z1 := k1.size
  refine At_while (fun i : Nat => [(3, .pointer (some ⟨bo, 0, none⟩)), (6, .slice (some ⟨b, 0, none⟩) l.length cap), (7, .int .i64 (l.length : Int)), (8, .int .i64 (i : Int))])
    (fun i w' => i ≤ l.length ∧ Bd w.heap.size w' bo ((l.take i).flatMap hexP) ∧ Kp No w w' ∧ w.heap.size ≤ w'.heap.size) (fun i => l.length - i) 0 ⟨rfl, rfl, rfl, rfl, trivial⟩ ⟨by omega, h1, k1, z1⟩ ?_
  rintro i w2 junk ⟨hi, h2, k2, z2⟩ again
  by_cases hlt : i < l.length
  · have hs2 := hs.kp k2 (fun h => h) hb
    have hx := hexS (l.getD i 0)
    have hq := hexP_len (l.take i)
    have hti : (l.take i).length = i := by simp; omega
    (refine At_seq ?_; refine At_region ?_; refine s_lss ?_; refine AtR_nil ?_; refine At_seq ?_; refine At_cond_t rfl ?_; refine At_skip ?_; refine At_seq ?_; refine At_block ?_; refine At_seq ?_; refine At_region ?_; refine s_ia ?_; refine s_ldw ?_; refine s_as ?_; refine AtR_nil ?_; refine At_seq ?_; refine At_region ?_; refine s_mv ?_)
    refine s_val (x_shr4 rfl rfl) ?_
    refine s_val (x_index_str (l := [48, 49, 50, 51, 52, 53, 54, 55, 56, 57, 97, 98, 99, 100, 101, 102]) (i := (l.getD i 0 >>> 4).toNat) rfl rfl hx.2.1) ?_
    rw [hx.1]
    refine s_call x_call (wb_calls w.heap.size bo _ _ _ h2 (by omega) (by omega)) ?_
    rintro _ w3 ⟨⟨v3, rfl⟩, h3, k3⟩
    refine ⟨_, rfl, ?_⟩
    (refine AtR_nil ?_; refine At_region ?_; refine s_mv ?_)
    refine s_val (x_andB rfl (b := 15) rfl) ?_
    refine s_val (x_index_str (l := [48, 49, 50, 51, 52, 53, 54, 55, 56, 57, 97, 98, 99, 100, 101, 102]) (i := (l.getD i 0 &&& 15).toNat) rfl rfl hx.2.2.2) ?_
    rw [hx.2.2.1]
    have z3 := k3.size
    refine s_call x_call (wb_calls w.heap.size bo _ _ _ h3 (by rw [List.length_append, List.length_singleton]; omega) (by omega)) ?_
    rintro _ w4 ⟨⟨v4, rfl⟩, h4, k4⟩
    refine ⟨_, rfl, ?_⟩
    have z4 := k4.size
    (refine AtR_nil ?_; refine At_inBlock ?_; refine At_region ?_; refine s_ad ?_; refine s_mv ?_; refine AtR_nil ?_)
    refine again (i + 1) _ _ ⟨rfl, rfl, rfl, rfl, trivial⟩ ⟨hlt, ?_, (k2.trans' k3 fun j hj => .inr hj).trans' k4 fun j hj => .inr hj, by omega⟩ (by omega)
    have e : (l.take (i + 1)).flatMap hexP = (l.take i).flatMap hexP ++ [hexD (l.getD i 0 >>> 4)] ++ [hexD (l.getD i 0 &&& 15)] := by
      rw [List.take_succ_eq_append_getElem hlt, List.flatMap_append]
      simp [hexP, List.getD, hlt]
    rw [e]; exact h4
  · obtain rfl : i = l.length := by omega
    rw [List.take_length] at h2
    (refine At_seq ?_; refine At_region ?_; refine s_lss ?_; refine AtR_nil ?_; refine At_seq ?_; refine At_cond_f rfl ?_; refine At_exit rfl ?_; refine At_seq ?_; refine At_region ?_)
    have hq := hexP_len l
    refine s_call x_call (st_calls w.heap.size bo _ _ h2 (by omega)) ?_
    rintro _ w3 ⟨rfl, k3⟩
    refine ⟨_, rfl, ?_⟩
    (refine s_as ?_; refine AtR_nil ?_)
    refine At_ret1 Tryd.func39 rfl (by conv => lhs; whnf) ?_
    exact ⟨rfl, k2.trans' k3 fun j hj => .inr hj⟩
theorem enc_le (l : List UInt8) : (l.flatMap enc).length ≤ 3 * l.length := by
  induction l with
  | nil => simp
  | cons a l ih =>
    rw [List.flatMap_cons, List.length_append, List.length_cons]
    have : (enc a).length ≤ 3 := by unfold enc; split <;> simp
    omega
theorem own_t {c : UInt8} (h1 : (32 : Int) < ub c) (h2 : ub c < 127) (h3 : ub c ≠ 37) : own c = true := by
  unfold own ub at *
  exact decide_eq_true ⟨by omega, by omega, by omega⟩
theorem own_f {c : UInt8} (h : ¬ ((32 : Int) < ub c ∧ ub c < 127 ∧ ub c ≠ 37)) : own c = false := by
  unfold own ub at *
  exact decide_eq_false fun h2 => h ⟨by omega, by omega, by omega⟩
set_option maxRecDepth 100000 in
set_option maxHeartbeats 4000000 in
theorem word_calls (s : List UInt8) (w : World) (hl : s.length ≤ 1000000) :
    Calls Tryd.prog 25 #[strV s] w fun e w' => e = .returned (strV (wordB s)) ∧ Kp No w w' := by
  refine calls_at (n := 35) Tryd.func25 rfl rfl (by simp) ?_
  (refine At_seq ?_; refine At_region ?_; refine s_as ?_; refine AtR_nil ?_; refine At_seq ?_; refine At_seq ?_; refine At_region ?_; refine s_mv ?_)
  by_cases hne : s = []
  · refine s_bool (x_eql_str (m := []) rfl rfl) (decide_eq_true hne) ?_
    (refine AtR_nil ?_; refine At_cond_t rfl ?_; refine At_seq ?_; refine At_region ?_; refine s_as ?_; refine AtR_nil ?_)
    refine At_ret1 Tryd.func25 rfl (by conv => lhs; whnf) ?_
    unfold wordB
    rw [if_pos hne]
    exact ⟨rfl, .refl _ _⟩
  refine s_bool (x_eql_str (m := []) rfl rfl) (decide_eq_false hne) ?_
  (refine AtR_nil ?_; refine At_cond_f rfl ?_; refine At_skip ?_; refine At_seq ?_; refine At_region ?_)
  refine AtR_go rfl (G_val r_alloc ?_)
  rintro _ w1 ⟨bo, rfl, hbo, e1⟩
  have h1 : Bd w.heap.size w1 bo [] := Bd.new e1.blk (by omega)
  have k1 : Kp No w w1 := e1.kp (.inr (by omega))
  clear e1
  (refine AtR_nil ?_; refine At_seq ?_; refine At_seq ?_; refine At_region ?_; refine s_mv ?_; refine s_lns ?_; refine s_mv ?_; refine AtR_nil ?_; refine At_block ?_)
  have z1 := k1.size
  refine At_while (fun i : Nat => [(0, strV s), (3, .pointer (some ⟨bo, 0, none⟩)), (9, .int .i64 (s.length : Int)), (10, .int .i64 (i : Int))])
    (fun i w' => i ≤ s.length ∧ Bd w.heap.size w' bo ((s.take i).flatMap enc) ∧ Kp No w w' ∧ w.heap.size ≤ w'.heap.size) (fun i => s.length - i) 0 ⟨rfl, rfl, rfl, rfl, trivial⟩ ⟨by omega, h1, k1, z1⟩ ?_
  rintro i w2 junk ⟨hi, h2, k2, z2⟩ again
  by_cases hlt : i < s.length
  · have hq := enc_le (s.take i)
    have hti : (s.take i).length = i := by simp; omega
    have hc := ub_bd (s.getD i 0)
    have hsn : (s.take (i + 1)).flatMap enc = (s.take i).flatMap enc ++ enc (s.getD i 0) := by
      rw [List.take_succ_eq_append_getElem hlt, List.flatMap_append]
      simp [List.getD, hlt]
    (refine At_seq ?_; refine At_region ?_; refine s_lss ?_; refine AtR_nil ?_; refine At_seq ?_; refine At_cond_t rfl ?_; refine At_skip ?_; refine At_seq ?_; refine At_block ?_; refine At_seq ?_; refine At_region ?_; refine s_mv ?_; refine s_as ?_; refine AtR_nil ?_; refine At_seq ?_; refine At_region ?_; refine s_mv ?_; refine s_mv ?_)
    refine s_val (x_index_str (i := i) rfl rfl hlt) ?_
    generalize s.getD i 0 = c at *
    by_cases ho : own c = true
    · obtain ⟨g1, g2, g3⟩ := of_decide_eq_true ho
      have h1' : (32 : Int) < ub c := by unfold ub; omega
      have h2' : ub c < 127 := by unfold ub; omega
      have h3' : ub c ≠ 37 := by unfold ub; omega
      have hen : enc c = [c] := by unfold enc; rw [if_pos ho]
      rw [hen] at hsn
      (refine s_as ?_; refine AtR_nil ?_; refine At_seq ?_; refine At_region ?_; refine s_mv ?_; refine s_gtr ?_; refine s_mv ?_; refine s_yes rfl rfl rfl rfl ?_; refine g_mv ?_; refine s_yes rfl rfl rfl rfl ?_; refine g_lss ?_; refine s_pt ?_; refine s_mv ?_; refine s_yes rfl rfl rfl rfl ?_; refine g_mv ?_; refine s_yes rfl rfl rfl rfl ?_; refine g_neq ?_; refine s_pt ?_; refine AtR_nil ?_; refine At_cond_t rfl ?_; refine At_region ?_; refine s_mv ?_)
      refine s_call x_call (wb_calls w.heap.size bo _ _ _ h2 (by omega) (by omega)) ?_
      rintro _ w3 ⟨⟨v3, rfl⟩, h3, k3⟩
      refine ⟨_, rfl, ?_⟩
      have z3 := k3.size
      (refine AtR_nil ?_; refine At_inBlock ?_; refine At_region ?_; refine s_ad ?_; refine s_mv ?_; refine AtR_nil ?_)
      exact again (i + 1) _ _ ⟨rfl, rfl, rfl, rfl, trivial⟩ ⟨hlt, by rw [hsn]; exact h3, k2.trans' k3 fun j hj => .inr hj, by omega⟩ (by omega)
    · have hor : ¬ (32 : Int) < ub c ∨ ((32 : Int) < ub c ∧ ¬ ub c < 127) ∨ ((32 : Int) < ub c ∧ ub c < 127 ∧ ub c = 37) := by
        by_cases a1 : (32 : Int) < ub c
        · by_cases a2 : ub c < 127
          · by_cases a3 : ub c = 37
            · exact .inr (.inr ⟨a1, a2, a3⟩)
            · exact absurd (own_t a1 a2 a3) ho
          · exact .inr (.inl ⟨a1, a2⟩)
        · exact .inl a1
      have hen : enc c = 37 :: hexP c := by unfold enc hexP; rw [if_neg ho]
      rw [hen] at hsn
      clear ho
      rcases hor with a1 | ⟨a1, a2⟩ | ⟨a1, a2, a3⟩
      all_goals
        repeat (first | refine AtR_nil ?_ | refine s_mv ?_ | refine s_as ?_ | refine s_pt ?_ | refine s_pf ?_ | refine s_nt ?_ | refine s_ex ?_ | refine s_nc ?_ | refine s_fa ?_ | refine s_ia ?_ | refine s_lns ?_ | refine s_xw ?_ | refine s_aw ?_ | refine s_ow ?_ | refine s_dw ?_ | refine s_hl ?_ | refine s_hr ?_ | refine s_bw ?_ | refine s_wb ?_ | refine s_ng ?_ | refine s_ldw ?_ | refine s_iaa ?_ | refine s_qu ?_ | refine s_rm ?_ | refine s_ml ?_ | refine s_cp ?_ | refine s_ld ?_ | refine s_sl ?_ | refine s_ad ?_ | refine s_sb ?_ | refine s_ln ?_ | refine s_cv ?_ | refine s_lss ?_ | refine s_leq ?_ | refine s_gtr ?_ | refine s_geq ?_ | refine s_eql ?_ | refine s_neq ?_ | refine s_eqlf ?_ | refine s_eqlp ?_ | refine s_eqln ?_ | refine s_neqf ?_ | refine s_neqp ?_ | refine s_neqn ?_ | refine At_seq ?_ | refine At_region ?_ | refine AtR_nil ?_ | refine At_block ?_ | refine At_inBlock ?_ | refine At_skip ?_ | refine At_cond_t rfl ?_ | refine At_cond_f rfl ?_ | refine At_exit rfl ?_ | refine s_no rfl rfl rfl rfl ?_ | refine s_nou rfl rfl rfl ?_ | (refine s_yes rfl rfl rfl rfl ?_; first | refine g_mv ?_ | refine g_as ?_ | refine g_pt ?_ | refine g_pf ?_ | refine g_nt ?_ | refine g_ex ?_ | refine g_nc ?_ | refine g_fa ?_ | refine g_ld ?_ | refine g_ia ?_ | refine g_sl ?_ | refine g_ad ?_ | refine g_sb ?_ | refine g_ln ?_ | refine g_cv ?_ | refine g_lss ?_ | refine g_leq ?_ | refine g_gtr ?_ | refine g_geq ?_ | refine g_eql ?_ | refine g_neq ?_ | refine g_eqlf ?_ | refine g_eqlp ?_ | refine g_eqln ?_ | refine g_neqf ?_ | refine g_neqp ?_ | refine g_neqn ?_))
        refine AtR_go rfl (G_val (r_buildSlice1 (os := [_]) rfl rfl (by omega) rfl rfl rfl) ?_)
        rintro _ w3 ⟨b3, rfl, hb3, e3⟩
        have k3 : Kp No w2 w3 := e3.kp (.inr (by omega))
        have B3 : Blk w3 b3 5 (0, 0) (ints .u8 (bs8 [c])) := e3.blk
        have l3 := B3.lt
        replace h2 := h2.kpn k3
        clear e3
        repeat (first | refine AtR_nil ?_ | refine s_mv ?_ | refine s_as ?_ | refine s_pt ?_ | refine s_pf ?_ | refine s_nt ?_ | refine s_ex ?_ | refine s_nc ?_ | refine s_fa ?_ | refine s_ia ?_ | refine s_lns ?_ | refine s_xw ?_ | refine s_aw ?_ | refine s_ow ?_ | refine s_dw ?_ | refine s_hl ?_ | refine s_hr ?_ | refine s_bw ?_ | refine s_wb ?_ | refine s_ng ?_ | refine s_ldw ?_ | refine s_iaa ?_ | refine s_qu ?_ | refine s_rm ?_ | refine s_ml ?_ | refine s_cp ?_ | refine s_ld ?_ | refine s_sl ?_ | refine s_ad ?_ | refine s_sb ?_ | refine s_ln ?_ | refine s_cv ?_ | refine s_lss ?_ | refine s_leq ?_ | refine s_gtr ?_ | refine s_geq ?_ | refine s_eql ?_ | refine s_neq ?_ | refine s_eqlf ?_ | refine s_eqlp ?_ | refine s_eqln ?_ | refine s_neqf ?_ | refine s_neqp ?_ | refine s_neqn ?_ | refine At_seq ?_ | refine At_region ?_ | refine AtR_nil ?_ | refine At_block ?_ | refine At_inBlock ?_ | refine At_skip ?_ | refine At_cond_t rfl ?_ | refine At_cond_f rfl ?_ | refine At_exit rfl ?_ | refine s_no rfl rfl rfl rfl ?_ | refine s_nou rfl rfl rfl ?_ | (refine s_yes rfl rfl rfl rfl ?_; first | refine g_mv ?_ | refine g_as ?_ | refine g_pt ?_ | refine g_pf ?_ | refine g_nt ?_ | refine g_ex ?_ | refine g_nc ?_ | refine g_fa ?_ | refine g_ld ?_ | refine g_ia ?_ | refine g_sl ?_ | refine g_ad ?_ | refine g_sb ?_ | refine g_ln ?_ | refine g_cv ?_ | refine g_lss ?_ | refine g_leq ?_ | refine g_gtr ?_ | refine g_geq ?_ | refine g_eql ?_ | refine g_neq ?_ | refine g_eqlf ?_ | refine g_eqlp ?_ | refine g_eqln ?_ | refine g_neqf ?_ | refine g_neqp ?_ | refine g_neqn ?_))
        refine s_call x_call (hex_calls [c] b3 1 _ B3.seg l3 (by simp)) ?_
        rintro _ w4 ⟨rfl, k4⟩
        refine ⟨_, rfl, ?_⟩
        replace h2 := h2.kpn k4
        have z3 := k3.size
        have z4 := k4.size
        have hc1 : ([c] : List UInt8).flatMap hexP = hexP c := by simp
        rw [hc1]
        refine s_val (x_cat (l := [37]) rfl rfl (by simp [hexP])) ?_
        refine s_call x_call (ws_calls w.heap.size bo _ ([37] ++ hexP c) _ h2 (by simp only [hexP, List.length_append, List.length_cons, List.length_nil]; omega) (by omega)) ?_
        rintro _ w5 ⟨⟨v5, rfl⟩, h5, k5⟩
        refine ⟨_, rfl, ?_⟩
        have z5 := k5.size
        repeat (first | refine AtR_nil ?_ | refine s_mv ?_ | refine s_as ?_ | refine s_pt ?_ | refine s_pf ?_ | refine s_nt ?_ | refine s_ex ?_ | refine s_nc ?_ | refine s_fa ?_ | refine s_ia ?_ | refine s_lns ?_ | refine s_xw ?_ | refine s_aw ?_ | refine s_ow ?_ | refine s_dw ?_ | refine s_hl ?_ | refine s_hr ?_ | refine s_bw ?_ | refine s_wb ?_ | refine s_ng ?_ | refine s_ldw ?_ | refine s_iaa ?_ | refine s_qu ?_ | refine s_rm ?_ | refine s_ml ?_ | refine s_cp ?_ | refine s_ld ?_ | refine s_sl ?_ | refine s_ad ?_ | refine s_sb ?_ | refine s_ln ?_ | refine s_cv ?_ | refine s_lss ?_ | refine s_leq ?_ | refine s_gtr ?_ | refine s_geq ?_ | refine s_eql ?_ | refine s_neq ?_ | refine s_eqlf ?_ | refine s_eqlp ?_ | refine s_eqln ?_ | refine s_neqf ?_ | refine s_neqp ?_ | refine s_neqn ?_ | refine At_seq ?_ | refine At_region ?_ | refine AtR_nil ?_ | refine At_block ?_ | refine At_inBlock ?_ | refine At_skip ?_ | refine At_cond_t rfl ?_ | refine At_cond_f rfl ?_ | refine At_exit rfl ?_ | refine s_no rfl rfl rfl rfl ?_ | refine s_nou rfl rfl rfl ?_ | (refine s_yes rfl rfl rfl rfl ?_; first | refine g_mv ?_ | refine g_as ?_ | refine g_pt ?_ | refine g_pf ?_ | refine g_nt ?_ | refine g_ex ?_ | refine g_nc ?_ | refine g_fa ?_ | refine g_ld ?_ | refine g_ia ?_ | refine g_sl ?_ | refine g_ad ?_ | refine g_sb ?_ | refine g_ln ?_ | refine g_cv ?_ | refine g_lss ?_ | refine g_leq ?_ | refine g_gtr ?_ | refine g_geq ?_ | refine g_eql ?_ | refine g_neq ?_ | refine g_eqlf ?_ | refine g_eqlp ?_ | refine g_eqln ?_ | refine g_neqf ?_ | refine g_neqp ?_ | refine g_neqn ?_))
        exact again (i + 1) _ _ ⟨rfl, rfl, rfl, rfl, trivial⟩ ⟨hlt, by rw [hsn]; exact h5, ((k2.trans k3).trans k4).trans' k5 fun j hj => .inr hj, by omega⟩ (by omega)
  · obtain rfl : i = s.length := by omega
    rw [List.take_length] at h2
    (refine At_seq ?_; refine At_region ?_; refine s_lss ?_; refine AtR_nil ?_; refine At_seq ?_; refine At_cond_f rfl ?_; refine At_exit rfl ?_; refine At_seq ?_; refine At_region ?_)
    have hq := enc_le s
    refine s_call x_call (st_calls w.heap.size bo _ _ h2 (by omega)) ?_
    rintro _ w3 ⟨rfl, k3⟩
    refine ⟨_, rfl, ?_⟩
    (refine s_as ?_; refine AtR_nil ?_)
    refine At_ret1 Tryd.func25 rfl (by conv => lhs; whnf) ?_
    unfold wordB
    rw [if_neg hne]
    exact ⟨rfl, k2.trans' k3 fun j hj => .inr hj⟩
end Go.Proofs.YtgobmphkakmdmaaDoor
