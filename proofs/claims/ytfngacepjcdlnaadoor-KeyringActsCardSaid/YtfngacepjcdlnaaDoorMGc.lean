/- A ring's Keys, Clear; a key of law 23. | The examples of law 23. -/
import Derived.Test.YtfngacepjcdlnaaDoorMGb
import Derived.Test.YtfngacepjcdlnaaDoorMQb
set_option linter.unusedVariables false
namespace Go.Proofs.YtfngacepjcdlnaaDoor
open Go Go.Kx Go.Kr
def idCells (xs : List En) : List Value := xs.flatMap fun x => ints .u8 (bs8 x.e.id)
theorem idCells_snoc (xs : List En) (i : Nat) (h : i < xs.length) : idCells (xs.take (i + 1)) = idCells (xs.take i) ++ ints .u8 (bs8 (xs.getD i default).e.id) := by
  have e : xs.getD i default = xs[i] := by simp [List.getD, h]
  rw [idCells, idCells, e, List.take_succ_eq_append_getElem h, List.flatMap_append, List.flatMap_cons, List.flatMap_nil, List.append_nil]
set_option maxRecDepth 100000 in
set_option maxHeartbeats 1000000 in
theorem keys_calls (xs : List En) (r bo : Nat) (w : World) {D : Nat → Prop} (hR : RingAt w r bo xs D) :
    Calls Tryd.prog 33 #[.pointer (some ⟨r, 0, none⟩)] w
      fun e w' => ∃ a' cap', e = .returned (.slice a' xs.length cap') ∧ Own w' 22 16 a' xs.length cap' (idCells xs) ∧ (∀ j, blkOf a' j → w.heap.size ≤ j) ∧ Kp No w w' := by
  refine calls_at (n := 24) Tryd.func33 rfl rfl (by simp) ?_
  obtain ⟨a, cap, R, hO, _⟩ := hR.es
  have hf := hR.few
  (refine At_seq ?_; refine At_region ?_; refine s_as ?_; refine AtR_nil ?_; refine At_seq ?_; refine At_region ?_; refine s_as ?_; refine AtR_nil ?_; refine At_seq ?_; refine At_seq ?_; refine At_region ?_; refine s_mv ?_; refine s_nc ?_; refine s_fa ?_; refine s_ld ?_; refine s_ln ?_; refine s_mv ?_; refine AtR_nil ?_; refine At_block ?_)
  refine At_while (fun s : Nat × Option Addr × Nat => [(3, .slice s.2.1 s.1 s.2.2), (9, .slice a xs.length cap), (10, .int .i64 (xs.length : Int)), (11, .int .i64 (s.1 : Int))])
    (fun s w' => s.1 ≤ xs.length ∧ Own w' 22 16 s.2.1 s.1 s.2.2 (idCells (xs.take s.1)) ∧ (∀ j, blkOf s.2.1 j → w.heap.size ≤ j) ∧ Kp No w w') (fun s => xs.length - s.1) (0, none, 0) ⟨rfl, rfl, rfl, rfl, trivial⟩
    ⟨by omega, Own.nil _ _ _, fun j hj => by simp [blkOf] at hj, Kp.refl _ _⟩ ?_
  rintro ⟨i, ai, ci⟩ w1 junk ⟨hi, ho, hfr, K⟩ again
  simp only at hi ho hfr again ⊢
  by_cases hlt : i < xs.length
  · have hO1 := hO.kp K fun _ _ h => h
    obtain ⟨ab, sp, rfl, _, _, _⟩ := hO1.some_of (by have := hO1.2.1; omega)
    obtain ⟨hE, _⟩ := (hR.kpn K).en _ (mem_getD hlt)
    have hsn := idCells_snoc xs i hlt
    (refine At_seq ?_; refine At_region ?_; refine s_lss ?_; refine AtR_nil ?_; refine At_seq ?_; refine At_cond_t rfl ?_; refine At_skip ?_; refine At_seq ?_; refine At_block ?_; refine At_seq ?_; refine At_region ?_; refine s_ia ?_)
    refine s_val (x_load_ptr rfl (own_seg hO1) hlt) ?_
    generalize xs.getD i default = x at hE hsn ⊢
    have hrow := hE.row
    have hid := hE.id
    (refine s_as ?_; refine AtR_nil ?_; refine At_region ?_; refine s_mv ?_; refine s_mv ?_; refine s_nc ?_; refine s_fa ?_)
    refine s_val (x_load_segN rfl (en_id hE) (by simp [hid])) ?_
    refine AtR_go rfl (G_val (r_buildSliceA (z := .agg z22.toArray) rfl (by simp [hid]) (by simp [Value.cells, z22])) ?_)
    rintro _ w2 ⟨b2, rfl, hb2, e2⟩
    have B2 : Blk w2 b2 22 (0, 0) (ints .u8 (bs8 x.e.id)) := e2.blk
    have k2 : Kp No w1 w2 := e2.kp (.inr (by omega))
    clear e2
    have ho2 := ho.kp k2 fun _ _ h => h
    have hsrc : Src Tryd.prog 16 65 (.slice (some ⟨b2, 0, none⟩) 1 1) 1 (ints .u8 (bs8 x.e.id)) w2 :=
      Src.ofSlice w2 (e' := 22) (by exact (inferInstance : TU Tryd.prog 65 (.slice 22)).h) ⟨b2, 0, none⟩ 1 1 _ (by simp [hid]) (fun j u hj => by rw [add_none, Nat.zero_add, B2.cell, hj]) (fun u hu => (List.all_eq_true.1 (ints_one _ _)) u hu)
    refine AtR_go rfl (AtG_append (tx := 65) (s := 16) rfl rfl ho2 hsrc (by simp [Value.cells, z22]) (by omega) (by simp only [maxLen]; omega) (by omega) fun a3 c3 w3 ho3 k3 hf3 => ?_)
    rw [← hsn] at ho3
    have k13 : Kp No w w3 := (K.trans k2).trans' k3 fun j hj => .inr (hfr j hj)
    (refine s_as ?_; refine AtR_nil ?_; refine At_inBlock ?_; refine At_region ?_; refine s_ad ?_; refine s_mv ?_; refine AtR_nil ?_)
    refine again (i + 1, a3, c3) _ _ ⟨rfl, rfl, rfl, rfl, trivial⟩ ⟨hlt, ho3, fun j hj => ?_, k13⟩ (by simp only; omega)
    rcases hf3 with rfl | ⟨b, rfl, hb⟩
    · exact hfr j hj
    · simp [blkOf] at hj; have := (K.trans k2).size; omega
  have hie : i = xs.length := by omega
  subst hie
  clear again
  rw [List.take_length] at ho
  (refine At_seq ?_; refine At_region ?_; refine s_lss ?_; refine AtR_nil ?_; refine At_seq ?_; refine At_cond_f rfl ?_; refine At_exit rfl ?_; refine At_seq ?_; refine At_region ?_; refine s_mv ?_; refine s_as ?_; refine AtR_nil ?_)
  refine At_ret1 Tryd.func33 rfl (by conv => lhs; whnf) ?_
  exact ⟨ai, ci, rfl, ho, hfr, K⟩
set_option maxRecDepth 100000 in
theorem lawKey_calls (c : UInt8) (n : Nat) (w : World) (hn : n ≤ 1000) :
    Calls Tryd.prog 32 #[.int .u8 (ub c), .int .i64 (n : Int)] w
      fun e w' => ∃ a' cap', e = .returned (.slice a' n cap') ∧ Own w' 5 1 a' n cap' (ints .u8 (bs8 (List.replicate n c))) ∧ (∀ j, blkOf a' j → w.heap.size ≤ j) ∧ Kp No w w' := by
  refine calls_at (n := 17) Tryd.func32 rfl rfl (by simp) ?_
  (refine At_seq ?_; refine At_region ?_; refine s_as ?_; refine AtR_nil ?_; refine At_seq ?_; refine At_region ?_; refine s_as ?_; refine AtR_nil ?_; refine At_seq ?_; refine At_seq ?_; refine At_region ?_; refine s_as ?_; refine AtR_nil ?_; refine At_block ?_)
  refine At_while (fun s : Nat × Option Addr × Nat => [(0, .int .u8 (ub c)), (1, .int .i64 (n : Int)), (5, .slice s.2.1 s.1 s.2.2), (6, .int .i64 (s.1 : Int))])
    (fun s w' => s.1 ≤ n ∧ Own w' 5 1 s.2.1 s.1 s.2.2 (ints .u8 (bs8 (List.replicate s.1 c))) ∧ (∀ j, blkOf s.2.1 j → w.heap.size ≤ j) ∧ Kp No w w') (fun s => n - s.1) (0, none, 0) ⟨rfl, rfl, rfl, rfl, trivial⟩
    ⟨by omega, Own.nil _ _ _, fun j hj => by simp [blkOf] at hj, Kp.refl _ _⟩ ?_
  rintro ⟨i, ai, ci⟩ w1 junk ⟨hi, ho, hfr, K⟩ again
  simp only at hi ho hfr again ⊢
  by_cases hlt : i < n
  · (refine At_seq ?_; refine At_seq ?_; refine At_region ?_; refine s_mv ?_; refine s_mv ?_; refine s_lss ?_; refine AtR_nil ?_; refine At_cond_t rfl ?_; refine At_skip ?_; refine At_seq ?_; refine At_block ?_; refine At_region ?_; refine s_mv ?_; refine s_mv ?_)
    refine AtR_go rfl (AtG_buildSlice1 (ops := [_]) rfl rfl (by omega) rfl rfl rfl fun b2 w2 hb2 e2 => ?_)
    have B2 : Blk w2 b2 5 (0, 0) (ints .u8 (bs8 [c])) := e2.blk
    have k2 : Kp No w1 w2 := e2.kp (.inr (by omega))
    clear e2
    refine AtR_go rfl (AtG_append (tx := 31) rfl rfl (ho.kp k2 fun _ _ h => h) (B2.src (T := 31) rfl rfl (ints_one _ _)) rfl (by omega) (by simp only [maxLen]; omega) (by omega) fun a3 c3 w3 ho3 k3 hf3 => ?_)
    have ho3' := own_eq ho3 (show _ = ints .u8 (bs8 (List.replicate (i + 1) c)) by rw [List.replicate_succ']; simp [ints, bs8]) rfl
    have k13 : Kp No w w3 := (K.trans k2).trans' k3 fun j hj => .inr (hfr j hj)
    (refine s_as ?_; refine AtR_nil ?_; refine At_inBlock ?_; refine At_region ?_; refine s_mv ?_; refine s_ad ?_; refine s_as ?_; refine AtR_nil ?_)
    refine again (i + 1, a3, c3) _ _ ⟨rfl, rfl, rfl, rfl, trivial⟩ ⟨hlt, ho3', fun j hj => ?_, k13⟩ (by simp only; omega)
    rcases hf3 with rfl | ⟨b, rfl, hb⟩
    · exact hfr j hj
    · simp [blkOf] at hj; have := (K.trans k2).size; omega
  have hie : i = n := by omega
  subst hie
  clear again
  (refine At_seq ?_; refine At_seq ?_; refine At_region ?_; refine s_mv ?_; refine s_mv ?_; refine s_lss ?_; refine AtR_nil ?_; refine At_cond_f rfl ?_; refine At_exit rfl ?_; refine At_seq ?_; refine At_region ?_; refine s_mv ?_; refine s_as ?_; refine AtR_nil ?_)
  refine At_ret1 Tryd.func32 rfl (by conv => lhs; whnf) ?_
  exact ⟨ai, ci, rfl, ho, hfr, K⟩
/-- Rings of one key. -/
theorem one_pos (id key : List UInt8) (h : Nat) : pos id [⟨id, key, h⟩] = 0 := by simp [pos, lt_irrefl]
theorem one_hit (id key : List UInt8) (h : Nat) : hit id [⟨id, key, h⟩] = true := by simp [hit, one_pos]
theorem one_ent (id key : List UInt8) (h : Nat) : ent id [⟨id, key, h⟩] = ⟨id, key, h⟩ := by simp [ent, one_pos]
theorem one_stat (id key : List UInt8) (h : Nat) : stat id [⟨id, key, h⟩] = if key = [] then 2 else 1 := by unfold stat; rw [one_hit, one_ent]; simp
theorem one_hold (id key : List UInt8) (h : Nat) : Kr.hold id [⟨id, key, h⟩] = [⟨id, key, h + 1⟩] := by unfold Kr.hold; rw [one_pos, one_ent]; rfl
theorem one_remove (id key : List UInt8) (h : Nat) : Kr.remove id [⟨id, key, h⟩] = if h = 0 then [] else [⟨id, [], h⟩] := by unfold Kr.remove Kr.drop; rw [one_pos, one_ent]; by_cases e : h = 0 <;> simp [e]
theorem one_release (id key : List UInt8) (h : Nat) : Kr.release id [⟨id, key, h⟩] = if h - 1 = 0 ∧ key = [] then [] else [⟨id, key, h - 1⟩] := by unfold Kr.release Kr.drop; rw [one_pos, one_ent]; rfl
theorem none_stat (id : List UInt8) : stat id [] = 0 := rfl
end Go.Proofs.YtfngacepjcdlnaaDoor

namespace Go.Proofs.YtfngacepjcdlnaaDoor
open Go Go.Kx Go.Kr
theorem notD {D D' : Nat → Prop} {w : World} {b : Nat} (h : ∀ j, D' j → D j ∨ w.heap.size ≤ j) (hb : ¬ D b) (hl : b < w.heap.size) : ¬ D' b := fun hd => (h b hd).elim hb fun h => by omega
/-- Nothing that was there when the ring was made is the ring's. -/
theorem newD {D D' : Nat → Prop} {w : World} {z : Nat} (h : ∀ j, D' j → D j ∨ w.heap.size ≤ j) (hd : ∀ j, D j → z ≤ j) (hz : z ≤ w.heap.size) : ∀ j, D' j → z ≤ j := fun j hj => (h j hj).elim (hd j) fun h => by omega
set_option maxRecDepth 100000 in
set_option maxHeartbeats 4000000 in
theorem awake23_calls (w : World) (hC : ∃ fz, Blk w 1 243 fz (ints .u64 (ws kSha))) : Calls Tryd.prog 31 #[] w fun e w' => e = .returned (.bool true) ∧ Kp No w w' := by
  refine calls_at (n := 69) Tryd.func31 rfl rfl (by simp) ?_
  (refine At_seq ?_; refine At_region ?_; refine s_as ?_; refine AtR_nil ?_; refine At_seq ?_; refine At_region ?_)
  refine s_call x_call (real_calls _) ?_
  rintro _ w1 ⟨bo, rfl, BO, hbo, k1⟩
  refine ⟨_, rfl, ?_⟩
  refine s_call x_call (ring_calls bo _) ?_
  rintro _ w2 ⟨r, rfl, BR, hr, k2⟩
  refine ⟨_, rfl, ?_⟩
  have K := k1.trans k2
  have hR := ring_new BR (BO.kp k2 fun h => h) (by obtain ⟨fz, hc⟩ := hC; exact ⟨fz, hc.kp K fun h => h⟩)
  have hrW : w.heap.size ≤ r := Nat.le_trans k1.size hr
  have hDW : ∀ j, (fun j => j = r) j → w.heap.size ≤ j := fun j hj => by simp only at hj; omega
  generalize (fun j => j = r) = D0 at hR hDW
  clear BR BO k1 k2
  (refine s_mv ?_; refine s_ex ?_; refine s_ex ?_; refine s_as ?_; refine s_as ?_; refine AtR_nil ?_; refine At_seq ?_; refine At_seq ?_; refine At_region ?_; refine s_mv ?_; refine s_eqlp ?_; refine s_mv ?_; refine s_yes rfl rfl rfl rfl ?_; refine g_mv ?_; refine s_yes rfl rfl rfl rfl ?_; refine g_neq ?_; refine s_pf ?_; refine AtR_nil ?_; refine At_cond_f rfl ?_; refine At_skip ?_; refine At_seq ?_; refine At_region ?_; refine s_mv ?_)
  refine AtR_go rfl (AtG_make1 (z := .int .u8 0) rfl rfl (by omega) (by omega) rfl (by omega) (by omega) fun bk w3 hbk e3 => ?_)
  obtain ⟨K0, hK0⟩ : ∃ K : List UInt8, K = List.replicate 32 0 := ⟨_, rfl⟩
  have BK : Blk w3 bk 5 (0, 0) (ints .u8 (bs8 K0)) := by rw [hK0]; exact e3.blk
  have hK32 : K0.length = 32 := by rw [hK0]; rfl
  have hKn : K0 ≠ [] := fun h => by rw [h] at hK32; cases hK32
  have k3 : Kp No w2 w3 := e3.kp (.inr (by omega))
  clear e3 hK0
  have hkD : ¬ D0 bk := fun h => by have := hR.dlt _ h; omega
  replace K := K.trans k3
  replace hR := hR.kpn k3
  clear k3
  have hidl := idK_length K0
  have hok : addOk (idK K0) K0 [] = 0 := by unfold addOk; rw [if_neg (by omega), if_neg (by simp)]
  refine s_call x_call (add_calls [] K0 _ 32 32 r bo _ (Dk := fun j => j = bk) hR Kr.Good.nil ((BK.sl (m := 32) (by simp [hK32]) (by omega)).e fun b hb => by simp [blkOf] at hb; exact hb.symm) (fun h => by cases h) (by rintro b rfl; exact hkD)) ?_
  rintro _ w4 ⟨rfl, xs1, D1, hR1, hL1, hD1, k4⟩
  refine ⟨_, rfl, ?_⟩
  simp only [show ents [] = [] from rfl, hok, if_true] at hL1 ⊢
  rw [add_first] at hL1
  have hg1 : Kr.Good (ents xs1) := by rw [hL1, ← add_first]; exact good_add Kr.Good.nil hidl hok
  have hD1W := newD hD1 hDW K.size
  replace K : Kp No w w4 := K.trans' k4 fun j hj => .inr (hDW j hj)
  clear hR hD1 k4 BK hkD hbk hDW
  (refine s_mv ?_; refine s_ex ?_; refine s_ex ?_)
  refine AtR_go rfl (AtG_alloc fun b3 w5 hb3 e5 => ?_)
  have z5 := e5.size
  refine AtR_go rfl (G_skip (r_store_all (s := 16) rfl rfl e5.blk (by simp [hidl]) (by simp [z22]) (ints_one _ _)) fun w6 e6 => ?_)
  have B3 : Blk w6 b3 22 (0, 0) (ints .u8 (bs8 (idK K0))) := e6.blk
  have k6 : Kp No w4 w6 := (e5.kp (S := No) (.inr (by omega))).trans' (e6.kp (S := fun j => j = b3) (.inl rfl)) (by rintro j rfl; right; omega)
  have n3 : ¬ D1 b3 := fun h => by have := hR1.dlt _ h; omega
  clear e5 e6
  replace K := K.trans k6
  replace hR1 := hR1.kpn k6
  clear k6
  generalize idK K0 = id at *
  (refine s_as ?_; refine AtR_nil ?_; refine At_seq ?_; refine At_region ?_; refine s_mv ?_)
  refine s_val (x_load_all rfl B3 (by simp [hidl])) ?_
  refine s_call x_call (hold_calls xs1 id r bo _ hR1 hg1.sorted hidl (by rw [hL1]; intro e he; rw [List.mem_singleton] at he; subst he; simp)) ?_
  rintro _ w7 ⟨rfl, xs2, D2, hR2, hL2, hD2, k7⟩
  refine ⟨_, rfl, ?_⟩
  rw [hL1, one_stat, if_neg hKn] at hL2 ⊢
  rw [if_pos rfl, one_hold] at hL2
  simp only [if_true]
  have hg2 : Kr.Good (ents xs2) := by rw [hL2, ← one_hold, ← hL1]; exact good_hold hg1 (by rw [hL1]; exact one_hit _ _ _)
  have n3' := notD hD2 n3 B3.lt
  replace B3 := B3.kp k7 n3
  have hD2W := newD hD2 hD1W K.size
  replace K : Kp No w w7 := K.trans' k7 fun j hj => .inr (hD1W j hj)
  clear hR1 hg1 hL1 hD1W n3 hD2 k7
  (refine s_as ?_; refine AtR_nil ?_; refine At_seq ?_; refine At_region ?_; refine s_mv ?_)
  refine s_val (x_load_all rfl B3 (by simp [hidl])) ?_
  refine s_call x_call (remove_calls xs2 id r bo _ hR2 hg2.sorted hidl) ?_
  rintro _ w8 ⟨rfl, xs3, D3, hR3, hL3, hD3, k8⟩
  refine ⟨_, rfl, ?_⟩
  rw [hL2, one_stat, if_neg hKn] at hL3 ⊢
  rw [if_pos rfl, one_remove, if_neg (by omega)] at hL3
  rw [one_ent, decide_eq_true ⟨rfl, by simp⟩]
  simp only [if_true]
  have hg3 : Sorted (ents xs3) := by rw [hL3]; exact List.pairwise_singleton _ _
  have n3 := notD hD3 n3' B3.lt
  replace B3 := B3.kp k8 n3'
  have hD3W := newD hD3 hD2W K.size
  replace K : Kp No w w8 := K.trans' k8 fun j hj => .inr (hD2W j hj)
  clear hR2 hg2 hL2 hD2W n3' hD3 k8
  (refine s_mv ?_; refine s_ex ?_; refine s_ex ?_; refine s_as ?_; refine s_as ?_; refine AtR_nil ?_; refine At_seq ?_; refine At_region ?_; refine s_mv ?_)
  refine s_val (x_load_all rfl B3 (by simp [hidl])) ?_
  refine s_call x_call (status_calls xs3 id r bo _ hR3 hg3 hidl) ?_
  rintro _ w9 ⟨rfl, k9⟩
  refine ⟨_, rfl, ?_⟩
  rw [hL3, one_stat, if_pos rfl]
  replace B3 := B3.kp k9 fun h => h
  replace hR3 := hR3.kpn k9
  replace K := K.trans k9
  clear k9
  (refine s_as ?_; refine AtR_nil ?_; refine At_seq ?_; refine At_region ?_; refine s_mv ?_)
  refine s_val (x_load_all rfl B3 (by simp [hidl])) ?_
  refine s_call x_call (release_calls xs3 id r bo _ hR3 hg3 hidl) ?_
  rintro _ w10 ⟨rfl, xs4, D4, hR4, hL4, hD4, k10⟩
  refine ⟨_, rfl, ?_⟩
  rw [hL3, one_hit, one_ent] at hL4 ⊢
  simp only [Nat.lt_add_one, and_self, if_true, one_release, Nat.sub_self] at hL4 ⊢
  replace B3 := B3.kp k10 n3
  replace K : Kp No w w10 := K.trans' k10 fun j hj => .inr (hD3W j hj)
  (refine s_as ?_; refine AtR_nil ?_; refine At_seq ?_; refine At_region ?_; refine s_mv ?_; refine s_eql ?_; refine s_mv ?_; refine s_yes rfl rfl rfl rfl ?_; refine g_mv ?_; refine s_yes rfl rfl rfl rfl ?_; refine g_eql ?_; refine s_pt ?_; refine s_mv ?_; refine s_yes rfl rfl rfl rfl ?_; refine g_mv ?_; refine s_pt ?_; refine s_mv ?_; refine s_yes rfl rfl rfl rfl ?_; refine g_mv ?_; refine s_yes rfl rfl rfl rfl ?_; refine g_eql ?_; refine s_pt ?_; refine s_mv ?_; refine s_yes rfl rfl rfl rfl ?_; refine g_mv ?_; refine s_yes rfl rfl rfl rfl ?_; refine g_eql ?_; refine s_pt ?_; refine s_mv ?_; refine s_yes rfl rfl rfl rfl ?_; refine g_mv ?_; refine s_yes rfl rfl rfl rfl ?_; refine g_eql ?_; refine s_pt ?_; refine s_mv ?_; refine s_yes rfl rfl rfl rfl ?_; refine g_mv ?_)
  refine s_yes rfl rfl rfl rfl (g_val (x_load_all rfl B3 (by simp [hidl])) ?_)
  refine s_yes rfl rfl rfl rfl (g_call x_call (status_calls xs4 id r bo _ hR4 (by rw [hL4]; exact List.Pairwise.nil) hidl) ?_)
  rintro _ w11 ⟨rfl, k11⟩
  refine ⟨_, rfl, ?_⟩
  rw [hL4, none_stat]
  (refine s_yes rfl rfl rfl rfl ?_; refine g_eql ?_; refine s_pt ?_; refine s_as ?_; refine AtR_nil ?_)
  refine At_ret1 Tryd.func31 rfl (by conv => lhs; whnf) ?_
  exact ⟨rfl, K.trans k11⟩
end Go.Proofs.YtfngacepjcdlnaaDoor
