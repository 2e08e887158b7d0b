/- The law KeyringGone, as a walk. | The law KeyringGone, of what comes in. -/
import Derived.Test.YtfngacepjcdlnaaDoorMGd
import Derived.Test.YtfngacepjcdlnaaDoorMQb
import Derived.Test.YtfngacepjcdlnaaDoorMKb
set_option linter.unusedVariables false
namespace Go.Proofs.YtfngacepjcdlnaaDoor
open Go Go.Kx Go.Kr
def goneL (id : List UInt8) (m i : Nat) : Ring := if i < m then [⟨id, [], m - i⟩] else []
theorem goneL_sorted (id : List UInt8) (m i : Nat) : Sorted (goneL id m i) := by unfold goneL; split <;> simp [Sorted]
theorem goneL_stat {id : List UInt8} {m i : Nat} (h : i < m) : stat id (goneL id m i) = 2 ∧ hit id (goneL id m i) = true ∧ 0 < (ent id (goneL id m i)).holds ∧ Kr.release id (goneL id m i) = goneL id m (i + 1) := by
  unfold goneL
  rw [if_pos h]
  refine ⟨by rw [one_stat, if_pos rfl], one_hit _ _ _, by rw [one_ent]; simp only; omega, ?_⟩
  rw [one_release]
  by_cases h1 : i + 1 < m
  · rw [if_pos h1, if_neg (by omega)]; congr 2
  · rw [if_neg h1, if_pos ⟨by omega, rfl⟩]
theorem goneL_no (id : List UInt8) (m i : Nat) : stat id (goneL id m i) ≠ 1 := by
  unfold goneL
  split
  · rw [one_stat, if_pos rfl]; decide
  · rw [none_stat]; decide
theorem goneL_keys (id : List UInt8) (m i : Nat) : ∀ e ∈ goneL id m i, e.key.length ≤ 64 := by
  unfold goneL
  split
  · intro e he; rw [List.mem_singleton] at he; subst he; simp
  · intro e he; cases he
theorem goneL_room {id : List UInt8} {m i : Nat} (h : m < 5) : Room (goneL id m i) := by
  unfold goneL
  split
  · intro e he; rw [List.mem_singleton] at he; subst he; simp only; omega
  · intro e he; cases he
theorem sle_nil {w : World} {D : Nat → Prop} : SlE w .u8 none 0 0 (bs8 []) D := ⟨rfl, Nat.le_refl _, by omega, .inl rfl⟩
set_option maxRecDepth 100000 in
set_option maxHeartbeats 8000000 in
theorem gone_row (W : World) (hC : ∃ fz, Blk W 1 243 fz (ints .u64 (ws kSha))) (kx : List UInt8) (a : Option Addr) (len cap : Nat) (hk : Sl W .u8 a len cap (bs8 kx)) (h : UInt8) :
    Calls Tryd.prog 8 #[.slice a len cap, .int .u8 (ub h)] W fun e w' => e = .returned (.bool true) ∧ RowKit.Below W.heap.size W w' := by
  have hlk := hk.len_eq
  simp only [bs8_length] at hlk
  subst hlk
  have hkn : a = none → kx.length = 0 := fun h => by
    rcases hk.mem with ⟨_, h2⟩ | ⟨b, off, e, _, _⟩
    · have := hk.le; omega
    · rw [h] at e; cases e
  have hub := ub_bd h
  obtain ⟨m, hm⟩ : ∃ m : Nat, m = (ub h % 5).toNat := ⟨_, rfl⟩
  have hm5 : ub h % 5 = (m : Int) := by omega
  have hmlt : m < 5 := by omega
  refine calls_at (n := 164) Tryd.func8 rfl rfl (by simp) ?_
  (refine At_seq ?_; refine At_region ?_; refine s_as ?_; refine AtR_nil ?_; refine At_seq ?_; refine At_seq ?_; refine At_region ?_)
  refine s_call x_call (awake23_calls _ hC) ?_
  rintro _ w1 ⟨rfl, K⟩
  refine ⟨_, rfl, ?_⟩
  have hC1 : ∃ fz, Blk w1 1 243 fz (ints .u64 (ws kSha)) := by obtain ⟨fz, hc⟩ := hC; exact ⟨fz, hc.kp K fun h => h⟩
  by_cases hsh : kx.length < 16 ∨ 64 < kx.length
  · rcases hsh with h | h
    · (refine s_nt ?_; refine s_mv ?_; refine s_yes rfl rfl rfl rfl ?_; refine g_mv ?_; refine s_yes rfl rfl rfl rfl ?_; refine g_ln ?_; refine s_yes rfl rfl rfl rfl ?_; refine g_lss ?_; refine s_pf ?_; refine s_mv ?_; refine s_no rfl rfl rfl rfl ?_; refine s_no rfl rfl rfl rfl ?_; refine s_no rfl rfl rfl rfl ?_; refine s_pt ?_; refine AtR_nil ?_; refine At_cond_t rfl ?_; refine At_seq ?_; refine At_region ?_)
      refine s_call x_call (awake23_calls _ hC1) ?_
      rintro _ w3 ⟨rfl, k3⟩
      refine ⟨_, rfl, ?_⟩
      (refine s_as ?_; refine AtR_nil ?_)
      refine At_ret1 Tryd.func8 rfl (by conv => lhs; whnf) ?_
      exact ⟨rfl, (K.trans k3).below⟩
    · (refine s_nt ?_; refine s_mv ?_; refine s_yes rfl rfl rfl rfl ?_; refine g_mv ?_; refine s_yes rfl rfl rfl rfl ?_; refine g_ln ?_; refine s_yes rfl rfl rfl rfl ?_; refine g_lss ?_; refine s_pf ?_; refine s_mv ?_; refine s_yes rfl rfl rfl rfl ?_; refine g_mv ?_; refine s_yes rfl rfl rfl rfl ?_; refine g_ln ?_; refine s_yes rfl rfl rfl rfl ?_; refine g_gtr ?_; refine s_pf ?_; refine AtR_nil ?_; refine At_cond_t rfl ?_; refine At_seq ?_; refine At_region ?_)
      refine s_call x_call (awake23_calls _ hC1) ?_
      rintro _ w3 ⟨rfl, k3⟩
      refine ⟨_, rfl, ?_⟩
      (refine s_as ?_; refine AtR_nil ?_)
      refine At_ret1 Tryd.func8 rfl (by conv => lhs; whnf) ?_
      exact ⟨rfl, (K.trans k3).below⟩
  (refine s_nt ?_; refine s_mv ?_; refine s_yes rfl rfl rfl rfl ?_; refine g_mv ?_; refine s_yes rfl rfl rfl rfl ?_; refine g_ln ?_; refine s_yes rfl rfl rfl rfl ?_; refine g_lss ?_; refine s_pf ?_; refine s_mv ?_; refine s_yes rfl rfl rfl rfl ?_; refine g_mv ?_; refine s_yes rfl rfl rfl rfl ?_; refine g_ln ?_; refine s_yes rfl rfl rfl rfl ?_; refine g_gtr ?_; refine s_pf ?_; refine AtR_nil ?_; refine At_cond_f rfl ?_; refine At_skip ?_; refine At_seq ?_; refine At_region ?_)
  refine s_call x_call (real_calls _) ?_
  rintro _ w3 ⟨bo, rfl, BO, hbo, k3⟩
  refine ⟨_, rfl, ?_⟩
  refine s_call x_call (ring_calls bo _) ?_
  rintro _ w4 ⟨r, rfl, BR, hr, k4⟩
  refine ⟨_, rfl, ?_⟩
  have hP := Pack.make hC (K.trans k3) BO BR hr k4
  generalize (fun j => j = r) = D0 at hP
  clear BR BO k3 k4 K hC1 hr hbo
  have hidl := idK_length kx
  have hkn' : kx ≠ [] := fun h => hsh (.inl (by rw [h]; simp))
  have hok : addOk (idK kx) kx [] = 0 := by unfold addOk; rw [if_neg hsh, if_neg (by simp)]
  have hkl : kx.length ≤ 64 := by omega
  have hgood : ∀ n, Kr.Good [⟨idK kx, kx, n⟩] := fun n => ⟨List.pairwise_singleton _ _, fun e he => by rw [List.mem_singleton] at he; subst he; exact hidl, fun e he => by rw [List.mem_singleton] at he; subst he; exact fun h => hkn' h.2, fun e he => by rw [List.mem_singleton] at he; subst he; exact hkl, by simp⟩
  have hkE : ∀ {w xs D}, Pack W w r bo xs D → SlE w .u8 a kx.length cap (bs8 kx) (fun j => j < W.heap.size) := fun hP => (hk.e fun b hb => hk.lt b hb).kpn hP.K
  have hkD : ∀ {w xs D}, Pack W w r bo xs D → ∀ b, b < W.heap.size → ¬ D b := fun hP b hb h => by have := hP.new b h; omega
  (refine s_mv ?_; refine s_ex ?_; refine s_ex ?_; refine s_as ?_; refine s_as ?_; refine AtR_nil ?_; refine At_seq ?_; refine At_region ?_; refine s_mv ?_; refine s_mv ?_)
  refine s_call x_call (add_calls [] kx a _ cap r bo _ hP.R Kr.Good.nil (hkE hP) hkn (hkD hP)) ?_
  rintro _ w5 ⟨rfl, ht⟩
  refine ⟨_, rfl, ?_⟩
  simp only [show ents [] = [] from rfl, hok, if_true, add_first] at ht ⊢
  obtain ⟨xs, D, hP, hL, _, _⟩ := hP.to ht
  clear ht
  (refine s_mv ?_; refine s_ex ?_; refine s_ex ?_)
  refine id_cell (fun _ => rfl) (fun _ => rfl) hidl fun b7 w7 hb7 B7 k7 => ?_
  have n7 : ¬ D b7 := hP.not hb7
  replace hP := hP.kpn k7
  clear k7 hb7
  (refine s_as ?_; refine AtR_nil ?_; refine At_seq ?_; refine At_seq ?_; refine At_region ?_; refine s_mv ?_; refine s_neq ?_; refine AtR_nil ?_; refine At_cond_f rfl ?_; refine At_skip ?_; refine At_seq ?_; refine At_region ?_; refine s_mv ?_)
  refine s_val (x_load_all rfl B7 (by simp [hidl])) ?_
  refine s_call x_call (ringDerive_calls xs (idK kx) r bo 3 [] 32 none 0 0 _ (D' := fun _ => True) hP.R (by rw [hL]; exact (hgood 0).sorted) hidl (by rw [hL]; exact (hgood 0).keys) sle_nil (by omega)) ?_
  rintro _ w8 ⟨k8, hp⟩
  rw [hL, one_stat, if_neg hkn', if_pos rfl, if_pos (by omega), one_ent] at hp
  obtain ⟨a9, c9, rfl, A9, hf9⟩ := hp
  refine ⟨_, rfl, ?_⟩
  rw [show (32 : Int).toNat = 32 from rfl] at A9 ⊢
  simp only at A9
  have n9 : ∀ j, blkOf a9 j → ¬ D j := fun j hj h => by have := hP.R.dlt j h; have := hf9 j hj; omega
  replace B7 := B7.kp k8 fun h => h
  replace hP := hP.kpn k8
  clear k8 hf9
  (refine s_mv ?_; refine s_ex ?_; refine s_ex ?_; refine s_as ?_; refine s_as ?_; refine AtR_nil ?_; refine At_seq ?_; refine At_region ?_; refine s_mv ?_; refine s_cv ?_; refine s_rm ?_; refine s_as ?_; refine AtR_nil ?_; refine At_seq ?_; refine At_seq ?_; refine At_region ?_; refine s_as ?_; refine AtR_nil ?_; refine At_block ?_)
  rw [hm5]
  skip
  refine At_while (fun s : Nat × List En × (Nat → Prop) => [(0, .slice a kx.length cap), (5, .pointer (some ⟨r, 0, none⟩)), (7, .pointer (some ⟨b7, 0, none⟩)), (9, .slice a9 32 c9), (10, .int .i64 0), (11, .int .i64 (m : Int)), (12, .int .i64 (s.1 : Int))])
    (fun s w' => s.1 ≤ m ∧ Pack W w' r bo s.2.1 s.2.2 ∧ ents s.2.1 = [⟨idK kx, kx, s.1⟩] ∧ Blk w' b7 22 (0, 0) (ints .u8 (bs8 (idK kx))) ∧ ¬ s.2.2 b7 ∧ Own w' 5 1 a9 32 c9 (ints .u8 (bs8 (derive kx 3 [] 32))) ∧ ∀ j, blkOf a9 j → ¬ s.2.2 j) (fun s => m - s.1) (0, xs, D)
    ⟨rfl, rfl, rfl, rfl, rfl, rfl, rfl, trivial⟩ ⟨by omega, hP, hL, B7, n7, A9, n9⟩ ?_
  clear hP hL B7 n7 A9 n9
  rintro ⟨i, xs, D⟩ w9 junk ⟨hi, hP, hL, B7, n7, A9, n9⟩ again
  simp only at hi hP hL n7 n9 again ⊢
  by_cases hlt : i < m
  · (refine At_seq ?_; refine At_seq ?_; refine At_region ?_; refine s_mv ?_; refine s_mv ?_; refine s_lss ?_; refine AtR_nil ?_; refine At_cond_t rfl ?_; refine At_skip ?_; refine At_seq ?_; refine At_block ?_; refine At_region ?_; refine s_mv ?_)
    refine s_val (x_load_all rfl B7 (by simp [hidl])) ?_
    refine s_call x_call (hold_calls xs (idK kx) r bo _ hP.R (by rw [hL]; exact (hgood i).sorted) hidl (by rw [hL]; intro e he; rw [List.mem_singleton] at he; subst he; simp only; omega)) ?_
    rintro _ w10 ⟨rfl, ht⟩
    refine ⟨_, rfl, ?_⟩
    rw [hL, one_stat, if_neg hkn', if_pos rfl, one_hold] at ht
    obtain ⟨xs2, D2, hP2, hL2, hD2, k2⟩ := hP.to ht
    (refine AtR_nil ?_; refine At_inBlock ?_; refine At_region ?_; refine s_mv ?_; refine s_ad ?_; refine s_as ?_; refine AtR_nil ?_)
    exact again (i + 1, xs2, D2) _ _ ⟨rfl, rfl, rfl, rfl, rfl, rfl, rfl, trivial⟩ ⟨hlt, hP2, hL2, B7.kp k2 n7, hD2 _ n7 B7.lt, A9.kp k2 n9, fun j hj => hD2 j (n9 j hj) (A9.lt j hj)⟩ (by simp only; omega)
  have him : i = m := by omega
  subst him
  clear again hi hlt
  (refine At_seq ?_; refine At_seq ?_; refine At_region ?_; refine s_mv ?_; refine s_mv ?_; refine s_lss ?_; refine AtR_nil ?_; refine At_cond_f rfl ?_; refine At_exit rfl ?_; refine At_seq ?_; refine At_region ?_; refine s_mv ?_)
  refine s_val (x_load_all rfl B7 (by simp [hidl])) ?_
  refine s_call x_call (remove_calls xs (idK kx) r bo _ hP.R (by rw [hL]; exact (hgood i).sorted) hidl) ?_
  rintro _ w10 ⟨rfl, ht⟩
  refine ⟨_, rfl, ?_⟩
  have hrm : (if i = 0 then [] else [⟨idK kx, [], i⟩]) = goneL (idK kx) i 0 := by
    unfold goneL
    by_cases h0 : i = 0
    · rw [if_pos h0, if_neg (by omega)]
    · rw [if_neg h0, if_pos (by omega), Nat.sub_zero]
  rw [hL, one_stat, if_neg hkn', if_pos rfl, one_remove, hrm] at ht
  rw [hL, one_stat, if_neg hkn', if_pos rfl, one_ent]
  obtain ⟨xs2, D2, hP2, hL2, hD2, k2⟩ := hP.to ht
  have n7' := hD2 _ n7 B7.lt
  have n9' : ∀ j, blkOf a9 j → ¬ D2 j := fun j hj => hD2 j (n9 j hj) (A9.lt j hj)
  replace B7 := B7.kp k2 n7
  replace A9 := A9.kp k2 n9
  clear hP hL hD2 k2 n7 n9 ht hrm
  clear hm hm5
  (refine s_mv ?_; refine s_ex ?_; refine s_ex ?_; refine s_as ?_; refine s_as ?_; refine AtR_nil ?_; refine At_seq ?_; refine At_region ?_; refine s_mv ?_)
  refine s_val (x_load_all rfl B7 (by simp [hidl])) ?_
  refine s_call x_call (ringDerive_calls xs2 (idK kx) r bo 3 [] 32 none 0 0 _ (D' := fun _ => True) hP2.R (by rw [hL2]; exact goneL_sorted _ _ _) hidl (by rw [hL2]; exact goneL_keys _ _ _) sle_nil (by omega)) ?_
  rintro _ w11 ⟨k11, hp⟩
  rw [hL2, if_neg (goneL_no _ _ _)] at hp
  subst hp
  refine ⟨_, rfl, ?_⟩
  replace B7 := B7.kp k11 fun h => h
  replace A9 := A9.kp k11 fun _ _ h => h
  replace hP2 := hP2.kpn k11
  clear k11
  have hbb : ∀ b : Bool, (b != b) = false := fun b => by cases b <;> rfl
  (refine s_mv ?_; refine s_ex ?_; refine s_ex ?_; refine s_as ?_; refine s_as ?_; refine AtR_nil ?_; refine At_seq ?_; refine At_seq ?_; refine At_region ?_; refine s_mv ?_; refine s_neq ?_; refine s_mv ?_; refine s_yes rfl rfl rfl rfl ?_; refine g_mv ?_; refine s_yes rfl rfl rfl rfl ?_; refine g_neq ?_; refine s_pf ?_; refine s_mv ?_; refine s_yes rfl rfl rfl rfl ?_; refine g_mv ?_; refine s_yes rfl rfl rfl rfl ?_; refine g_mv ?_)
  refine s_yes rfl rfl rfl rfl (g_val (x_gtr rfl rfl) ?_)
  refine s_yes rfl rfl rfl rfl (g_val (x_neq_bool rfl rfl) ?_)
  have hbz : decide (1 = 1 ∧ 0 < i) = decide (0 < (i : Int)) := by
    by_cases h0 : 0 < i
    · rw [decide_eq_true ⟨rfl, h0⟩]; exact (decide_eq_true (by omega)).symm
    · rw [decide_eq_false (fun h => h0 h.2)]; exact (decide_eq_false (by omega)).symm
  rw [show (decide (1 = 1 ∧ 0 < ({ id := idK kx, key := kx, holds := i } : Ent).holds) != decide (0 < (i : Int))) = false from by rw [← hbz]; exact hbb _]
  (refine s_pf ?_; refine s_mv ?_; refine s_yes rfl rfl rfl rfl ?_; refine g_mv ?_; refine s_yes rfl rfl rfl rfl ?_; refine g_neq ?_; refine s_pf ?_; refine s_mv ?_; refine s_yes rfl rfl rfl rfl ?_; refine g_mv ?_; refine s_yes rfl rfl rfl rfl ?_; refine g_ln ?_; refine s_yes rfl rfl rfl rfl ?_; refine g_neq ?_; refine s_pf ?_; refine s_mv ?_; refine s_yes rfl rfl rfl rfl ?_; refine g_mv ?_)
  refine s_yes rfl rfl rfl rfl (g_val (x_load_all rfl B7 (by simp [hidl])) ?_)
  refine s_yes rfl rfl rfl rfl (g_call x_call (hold_calls xs2 (idK kx) r bo _ hP2.R (by rw [hL2]; exact goneL_sorted _ _ _) hidl (by rw [hL2]; exact goneL_room hmlt)) ?_)
  rintro _ w12 ⟨rfl, ht⟩
  refine ⟨_, rfl, ?_⟩
  rw [hL2, if_neg (goneL_no _ _ _)] at ht
  rw [hL2, if_neg (goneL_no _ _ _)]
  obtain ⟨xs3, D3, hP, hL, hD3, k3⟩ := hP2.to ht
  have n7 := hD3 _ n7' B7.lt
  have n9 : ∀ j, blkOf a9 j → ¬ D3 j := fun j hj => hD3 j (n9' j hj) (A9.lt j hj)
  replace B7 := B7.kp k3 n7'
  replace A9 := A9.kp k3 n9'
  clear hP2 hL2 hD3 k3 n7' n9' ht
  (refine s_yes rfl rfl rfl rfl ?_; refine g_neq ?_; refine s_pf ?_; refine AtR_nil ?_; refine At_cond_f rfl ?_; refine At_skip ?_; refine At_seq ?_; refine At_seq ?_; refine At_region ?_; refine s_as ?_; refine AtR_nil ?_; refine At_block ?_)
  refine At_while (fun s : Nat × List En × (Nat → Prop) => [(0, .slice a kx.length cap), (5, .pointer (some ⟨r, 0, none⟩)), (7, .pointer (some ⟨b7, 0, none⟩)), (9, .slice a9 32 c9), (11, .int .i64 (i : Int)), (17, .int .i64 (s.1 : Int))])
    (fun s w' => s.1 ≤ i ∧ Pack W w' r bo s.2.1 s.2.2 ∧ ents s.2.1 = goneL (idK kx) i s.1 ∧ Blk w' b7 22 (0, 0) (ints .u8 (bs8 (idK kx))) ∧ ¬ s.2.2 b7 ∧ Own w' 5 1 a9 32 c9 (ints .u8 (bs8 (derive kx 3 [] 32))) ∧ ∀ j, blkOf a9 j → ¬ s.2.2 j) (fun s => i - s.1) (0, xs3, D3)
    ⟨rfl, rfl, rfl, rfl, rfl, rfl, trivial⟩ ⟨by omega, hP, hL, B7, n7, A9, n9⟩ ?_
  clear hP hL B7 n7 A9 n9
  rintro ⟨q, xs4, D4⟩ w13 junk2 ⟨hq, hP, hL, B7, n7, A9, n9⟩ again
  simp only at hq hP hL n7 n9 again ⊢
  by_cases hlt : q < i
  · obtain ⟨g1, g2, g3, g4⟩ := goneL_stat (id := idK kx) hlt
    (refine At_seq ?_; refine At_seq ?_; refine At_region ?_; refine s_mv ?_; refine s_mv ?_; refine s_lss ?_; refine AtR_nil ?_; refine At_cond_t rfl ?_; refine At_skip ?_; refine At_seq ?_; refine At_block ?_; refine At_seq ?_; refine At_region ?_; refine s_mv ?_)
    refine s_val (x_load_all rfl B7 (by simp [hidl])) ?_
    refine s_call x_call (status_calls xs4 (idK kx) r bo _ hP.R (by rw [hL]; exact goneL_sorted _ _ _) hidl) ?_
    rintro _ w14 ⟨rfl, k14⟩
    refine ⟨_, rfl, ?_⟩
    rw [hL, g1]
    replace B7 := B7.kp k14 fun h => h
    replace A9 := A9.kp k14 fun _ _ h => h
    replace hP := hP.kpn k14
    (refine s_neq ?_; refine s_mv ?_; refine s_yes rfl rfl rfl rfl ?_; refine g_mv ?_)
    refine s_yes rfl rfl rfl rfl (g_val (x_load_all rfl B7 (by simp [hidl])) ?_)
    refine s_yes rfl rfl rfl rfl (g_call x_call (release_calls xs4 (idK kx) r bo _ hP.R (by rw [hL]; exact goneL_sorted _ _ _) hidl) ?_)
    rintro _ w15 ⟨rfl, ht⟩
    refine ⟨_, rfl, ?_⟩
    rw [hL, if_pos ⟨g2, g3⟩, g4] at ht
    rw [hL, if_pos ⟨g2, g3⟩]
    obtain ⟨xs5, D5, hP5, hL5, hD5, k5⟩ := hP.to ht
    (refine s_yes rfl rfl rfl rfl ?_; refine g_neq ?_; refine s_pf ?_; refine AtR_nil ?_; refine At_cond_f rfl ?_; refine At_skip ?_; refine At_inBlock ?_; refine At_region ?_; refine s_mv ?_; refine s_ad ?_; refine s_as ?_; refine AtR_nil ?_)
    exact again (q + 1, xs5, D5) _ _ ⟨rfl, rfl, rfl, rfl, rfl, rfl, trivial⟩ ⟨hlt, hP5, hL5, B7.kp k5 n7, hD5 _ n7 B7.lt, A9.kp k5 n9, fun j hj => hD5 j (n9 j hj) (A9.lt j hj)⟩ (by simp only; omega)
  have hqi : q = i := by omega
  subst hqi
  clear again hq hlt
  rw [show goneL (idK kx) q q = [] by simp [goneL]] at hL
  have hx0 : xs4.length = 0 := by have := congrArg List.length hL; simpa using this
  (refine At_seq ?_; refine At_seq ?_; refine At_region ?_; refine s_mv ?_; refine s_mv ?_; refine s_lss ?_; refine AtR_nil ?_; refine At_cond_f rfl ?_; refine At_exit rfl ?_; refine At_seq ?_; refine At_seq ?_; refine At_region ?_; refine s_mv ?_)
  refine s_val (x_load_all rfl B7 (by simp [hidl])) ?_
  refine s_call x_call (status_calls xs4 (idK kx) r bo _ hP.R (by rw [hL]; exact List.Pairwise.nil) hidl) ?_
  rintro _ w14 ⟨rfl, k14⟩
  refine ⟨_, rfl, ?_⟩
  rw [hL, none_stat]
  replace B7 := B7.kp k14 fun h => h
  replace A9 := A9.kp k14 fun _ _ h => h
  replace hP := hP.kpn k14
  (refine s_neq ?_; refine s_mv ?_; refine s_yes rfl rfl rfl rfl ?_; refine g_mv ?_)
  refine s_yes rfl rfl rfl rfl (g_call x_call (keys_calls xs4 r bo _ hP.R) ?_)
  rintro _ w15 ⟨a15, c15, rfl, _, _, k15⟩
  refine ⟨_, rfl, ?_⟩
  rw [hx0]
  replace B7 := B7.kp k15 fun h => h
  replace A9 := A9.kp k15 fun _ _ h => h
  replace hP := hP.kpn k15
  (refine s_yes rfl rfl rfl rfl ?_; refine g_ln ?_; refine s_yes rfl rfl rfl rfl ?_; refine g_neq ?_; refine s_pf ?_; refine s_mv ?_; refine s_yes rfl rfl rfl rfl ?_; refine g_mv ?_)
  refine s_yes rfl rfl rfl rfl (g_val (x_load_all rfl B7 (by simp [hidl])) ?_)
  refine s_yes rfl rfl rfl rfl (g_call x_call (release_calls xs4 (idK kx) r bo _ hP.R (by rw [hL]; exact List.Pairwise.nil) hidl) ?_)
  rintro _ w16 ⟨rfl, ht⟩
  refine ⟨_, rfl, ?_⟩
  have hn0 : ¬ (hit (idK kx) [] = true ∧ 0 < (ent (idK kx) []).holds) := fun h => by simp [hit] at h
  rw [hL, if_neg hn0] at ht
  rw [hL, if_neg hn0]
  obtain ⟨xs6, D6, hP6, hL6, hD6, k6⟩ := hP.to ht
  have n7' := hD6 _ n7 B7.lt
  have n9' : ∀ j, blkOf a9 j → ¬ D6 j := fun j hj => hD6 j (n9 j hj) (A9.lt j hj)
  replace B7 := B7.kp k6 n7
  replace A9 := A9.kp k6 n9
  clear hP hL hD6 k6 n7 n9 ht k14 k15
  (refine s_yes rfl rfl rfl rfl ?_; refine g_neq ?_; refine s_pf ?_; refine AtR_nil ?_; refine At_cond_f rfl ?_; refine At_skip ?_; refine At_seq ?_; refine At_region ?_; refine s_mv ?_; refine s_mv ?_)
  refine s_call x_call (add_calls xs6 kx a _ cap r bo _ hP6.R (by rw [hL6]; exact Kr.Good.nil) (hkE hP6) hkn (hkD hP6)) ?_
  rintro _ w17 ⟨rfl, ht⟩
  refine ⟨_, rfl, ?_⟩
  rw [hL6] at ht ⊢
  simp only [hok, if_true, add_first] at ht ⊢
  obtain ⟨xs7, D7, hP, hL, hD7, k7⟩ := hP6.to ht
  have n7 := hD7 _ n7' B7.lt
  replace B7 := B7.kp k7 n7'
  replace A9 := A9.kp k7 n9'
  clear hP6 hL6 hD7 k7 n7' n9' ht
  (refine s_mv ?_; refine s_ex ?_; refine s_ex ?_)
  refine id_cell (fun _ => rfl) (fun _ => rfl) hidl fun b18 w18 hb18 B18 k18 => ?_
  replace B7 := B7.kp k18 fun h => h
  replace A9 := A9.kp k18 fun _ _ h => h
  replace hP := hP.kpn k18
  (refine s_as ?_; refine AtR_nil ?_; refine At_seq ?_; refine At_region ?_; refine s_mv ?_)
  refine s_val (x_load_all rfl B18 (by simp [hidl])) ?_
  refine s_call x_call (ringDerive_calls xs7 (idK kx) r bo 3 [] 32 none 0 0 _ (D' := fun _ => True) hP.R (by rw [hL]; exact (hgood 0).sorted) hidl (by rw [hL]; exact (hgood 0).keys) sle_nil (by omega)) ?_
  rintro _ w19 ⟨k19, hp⟩
  rw [hL, one_stat, if_neg hkn', if_pos rfl, if_pos (by omega), one_ent] at hp
  obtain ⟨ay, cy, rfl, AY, _⟩ := hp
  refine ⟨_, rfl, ?_⟩
  rw [show (32 : Int).toNat = 32 from rfl] at AY ⊢
  simp only at AY
  replace B7 := B7.kp k19 fun h => h
  replace B18 := B18.kp k19 fun h => h
  replace A9 := A9.kp k19 fun _ _ h => h
  replace hP := hP.kpn k19
  (refine s_mv ?_; refine s_ex ?_; refine s_ex ?_; refine s_as ?_; refine s_as ?_; refine AtR_nil ?_; refine At_seq ?_)
  have kd := Kp.drew (S := No) (w := w19)
  have hPd := hP.kpn kd
  let T : World → Prop := fun w' => Blk w' b18 22 (0, 0) (ints .u8 (bs8 (idK kx))) ∧ Blk w' b7 22 (0, 0) (ints .u8 (bs8 (idK kx))) ∧ SlE w' .u8 a9 32 c9 (bs8 (derive kx 3 [] 32)) (fun _ => True) ∧ SlE w' .u8 ay 32 cy (bs8 (derive kx 3 [] 32)) (fun _ => True)
  have hTk : ∀ {w w'}, T w → Kp No w w' → T w' := fun h k => ⟨h.1.kp k fun h => h, h.2.1.kp k fun h => h, h.2.2.1.kpn k, h.2.2.2.kpn k⟩
  have hidm : ints .u8 (bs8 (idK kx)) = mkI K22 (bs8 (idK kx)) := (mkI22 _ (by simp [hidl])).symm
  have lI : (mkI K22 (bs8 (idK kx))).length = 16 := by rw [mkI_length (by simp [hidl]; rfl)]; rfl
  refine At_draw T rfl ?_
  have hS : T w19.drew := ⟨B18.kp kd fun h => h, B7.kp kd fun h => h, (A9.kp kd fun _ _ h => h).sl.e fun _ _ => trivial, (AY.kp kd fun _ _ h => h).sl.e fun _ _ => trivial⟩
  refine AtH_take 0 rfl (by decide +kernel) rfl (fun wx hx => x_load_all (cs := mkI K22 (bs8 (idK kx))) rfl (by rw [← hidm]; exact hx.1) lI) hS ?_
  refine AtH_take 1 rfl (by decide +kernel) rfl (fun wx hx => x_load_all (cs := mkI K22 (bs8 (idK kx))) rfl (by rw [← hidm]; exact hx.2.1) lI) hS ?_
  refine AtH_bool 2 rfl (by decide +kernel) rfl (fun wx hx => x_eql_flat rfl rfl (by simp [hidl]; rfl) (by simp [hidl]; rfl)) (decide_eq_true rfl) hS ?_
  (apply AtH_take 3 rfl (by decide +kernel) (by exact rfl); (focus (intro wx hx; skip; exact x_move (by conv => lhs; whnf))); (focus (exact hS)))
  (apply AtH_take 4 rfl (by decide +kernel) (by exact ⟨_, _, rfl, by decide, rfl, rfl⟩); (focus (intro wx hx; skip; exact x_move (by conv => lhs; whnf))); (focus (exact hS)))
  (apply AtH_take 6 rfl (by decide +kernel) (by exact ⟨_, _, rfl, by decide, rfl, rfl⟩); (focus (intro wx hx; skip; exact x_move (by conv => lhs; whnf))); (focus (exact hS)))
  -- ready now: 5 convert 31 9 t151, 7 convert 31 9 t153
  refine AtH_take 5 rfl (by decide +kernel) (by exact ⟨_, _, rfl, by decide, rfl, rfl⟩) (fun wx hx => x_conv_bs rfl hx.2.2.2) hS ?_
  refine AtH_take 7 rfl (by decide +kernel) (by exact ⟨_, _, rfl, by decide, rfl, rfl⟩) (fun wx hx => x_conv_bs rfl hx.2.2.1) hS ?_
  refine AtH_bool 8 rfl (by decide +kernel) (by exact ⟨_, _, rfl, by decide, rfl, rfl⟩) (fun wx hx => x_eql_str rfl rfl) (decide_eq_true rfl) hS ?_
  (apply AtH_take 9 rfl (by decide +kernel) (by exact rfl); (focus (intro wx hx; skip; exact x_pick_t rfl (by conv => lhs; whnf))); (focus (exact hS)))
  (apply AtH_take 10 rfl (by decide +kernel) (by exact rfl); (focus (intro wx hx; skip; exact x_move (by conv => lhs; whnf))); (focus (exact hS)))
  (apply AtH_take 11 rfl (by decide +kernel) (by exact ⟨_, _, rfl, by decide, rfl, rfl⟩); (focus (intro wx hx; skip; exact x_move (by conv => lhs; whnf))); (focus (exact hS)))
  (apply AtH_take 13 rfl (by decide +kernel) (by exact ⟨_, _, rfl, by decide, rfl, rfl⟩); (focus (intro wx hx; skip; exact x_move (by conv => lhs; whnf))); (focus (exact hS)))
  -- ready now: 12 convert 31 9 t158, 14 call f22(t160, 3:u8, (slice none 0 0), 32:i64)
  refine AtH_take 12 rfl (by decide +kernel) (by exact ⟨_, _, rfl, by decide, rfl, rfl⟩) (fun wx hx => x_conv_bs rfl hx.2.2.1) hS ?_
  -- ready now: 14 call f22(t160, 3:u8, (slice none 0 0), 32:i64)
  refine AtH_call 14 rfl (by decide +kernel) (by exact ⟨_, _, rfl, by decide, rfl, rfl⟩) x_call  (derive23_calls kx 3 [] 32 _ _ _ _ _ _ _ (D' := fun _ => True) (hkE hPd) sle_nil (by omega) (by omega) (by omega)) ?_
  rintro _ w20 ⟨rfl, k20⟩
  have hT2 := hTk hS k20
  refine ⟨_, rfl, hT2, ?_⟩
  clear hS
  have hS := hT2
  refine AtH_bool 15 rfl (by decide +kernel) (by exact ⟨_, _, rfl, by decide, rfl, rfl⟩) (fun wx hx => x_eql_str rfl rfl) (decide_eq_true rfl) hS ?_
  (apply AtH_take 16 rfl (by decide +kernel) (by exact rfl); (focus (intro wx hx; skip; exact x_pick_t rfl (by conv => lhs; whnf))); (focus (exact hS)))
  (apply AtH_take 17 rfl (by decide +kernel) (by exact rfl); (focus (intro wx hx; skip; exact x_assign (by conv => lhs; whnf))); (focus (exact hS)))
  refine AtH_done (by decide +kernel) ?_
  skip
  refine At_ret1 Tryd.func8 rfl (by conv => lhs; whnf) ?_
  exact ⟨rfl, (hPd.K.trans k20).below⟩
end Go.Proofs.YtfngacepjcdlnaaDoor

namespace Go.Proofs.YtfngacepjcdlnaaDoor
open Go Go.Kx Go.Kr
theorem octets_wf {xs : List Int} (h : ∀ x ∈ xs, (Lit.int .u8 x).wf = true) : ∃ l : List UInt8, xs = bs8 l := by
  obtain ⟨l, e, _⟩ := octs_of (m := xs.length) (xs := xs) (by simp) (fun i k hk => by
    obtain ⟨hi, rfl⟩ : i < xs.length ∧ k = .u8 := by
      rw [List.getElem?_replicate] at hk
      split at hk
      · exact ⟨‹_›, (Option.some.inj hk).symm⟩
      · cases hk
    have hx : xs.getD i 0 = xs[i] := by simp [List.getD, hi]
    rw [hx]
    have := wf_bounds (h _ (List.getElem_mem hi))
    simpa [IntKind.has] using this)
  exact ⟨l, e⟩
theorem oct_wf {x : Int} (h : (Lit.int .u8 x).wf = true) : ∃ u : UInt8, x = ub u := by
  obtain ⟨l, e⟩ := octets_wf (xs := [x]) (by simpa using h)
  match l, e with
  | [], e => cases e
  | [u], e => exact ⟨u, List.cons.inj e |>.1⟩
  | _ :: _ :: _, e => cases e
theorem gone_in (W : World) (hC : ∃ fz, Blk W 1 243 fz (ints .u64 (ws kSha))) (a : Option Addr) (len cap : Nat) (z : List Int) (hk : Sl W .u8 a len cap z) (hz : ∀ x ∈ z, (Lit.int .u8 x).wf = true) (h : Int) (hh : (Lit.int .u8 h).wf = true) :
    Calls Tryd.prog 8 #[.slice a len cap, .int .u8 h] W fun e w' => e = .returned (.bool true) ∧ RowKit.Below W.heap.size W w' := by
  obtain ⟨kx, rfl⟩ := octets_wf hz
  obtain ⟨u, rfl⟩ := oct_wf hh
  exact gone_row W hC kx a len cap hk u
end Go.Proofs.YtfngacepjcdlnaaDoor
