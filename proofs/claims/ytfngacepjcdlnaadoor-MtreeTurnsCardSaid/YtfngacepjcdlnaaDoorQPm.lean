/- Trees: the law's numbers; the document's lists of blocks. | Trees: the document's count of sectors. -/
import Derived.Test.YtfngacepjcdlnaaDoorQMi
import Derived.Test.YtfngacepjcdlnaaDoorQTb
set_option linter.unusedVariables false
namespace Go.Mt
open Go Go.Kx Go.Proofs.YtfngacepjcdlnaaDoor
def atZ (i : Int) : Int := if i < 0 ∨ 600000 < i then i else i % 3000
def blC (l : BlL) : List Value := l.flatMap fun e => [.int .i64 (e.1 : Int), strV e.2]
theorem blC_length (l : BlL) : (blC l).length = l.length * 2 := by
 induction l with
 | nil => rfl
 | cons e l ih => rw [show blC (e :: l) = [.int .i64 (e.1 : Int), strV e.2] ++ blC l from rfl, List.length_append, ih, List.length_cons]; simp; omega
theorem blC_get : ∀ {l : BlL} {i : Nat} (h : i < l.length), (blC l)[i * 2]? = some (.int .i64 (l[i].1 : Int)) ∧ (blC l)[i * 2 + 1]? = some (strV l[i].2)
 | [], i, h => by simp at h
 | e :: l, 0, h => ⟨rfl, rfl⟩
 | e :: l, i + 1, h => by
  have ih := blC_get (l := l) (i := i) (by simpa using h)
  rw [show blC (e :: l) = [.int .i64 (e.1 : Int), strV e.2] ++ blC l from rfl, show (i + 1) * 2 = i * 2 + 2 by omega]
  exact ⟨by rw [List.getElem?_append_right (by simp)]; simpa using ih.1, by rw [List.getElem?_append_right (by simp)]; simpa using ih.2⟩
theorem blC_app (l m : BlL) : blC (l ++ m) = blC l ++ blC m := by simp [blC]
def getL (l : BlL) (i : Int) : Option (List UInt8) := (l.find? fun e => decide ((e.1 : Int) = i)).map Prod.snd
theorem getL_take {l : BlL} {i : Int} : ∀ k, k ≤ l.length → (∀ j (h : j < l.length), j < k → ((l[j].1 : Nat) : Int) ≠ i) → getL l i = getL (l.drop k) i := by
 intro k
 induction k generalizing l with
 | zero => intro _ _; rfl
 | succ k ih =>
  intro hk h
  cases l with
  | nil => simp at hk
  | cons e l =>
   have h0 := h 0 (by simp) (by omega)
   have := ih (l := l) (by simpa using hk) fun j hj hjk => h (j + 1) (by simpa using hj) (by omega)
   rw [List.drop_succ_cons, ← this]
   unfold getL
   rw [List.find?_cons_of_neg (by simpa using h0)]
end Go.Mt
namespace Go.Proofs.YtfngacepjcdlnaaDoor
open Go Go.Kx Go.Kr Go.Mt
set_option maxRecDepth 100000 in
set_option maxHeartbeats 4000000 in
theorem at53_calls (i : Int) (w : World) (hi : -9223372036854775808 ≤ i ∧ i ≤ 9223372036854775807) :
  Calls Tryd.prog 53 #[.int .i64 i] w fun e w' => e = .returned (.int .i64 (atZ i)) ∧ w = w' := by
 refine calls_at (n := 12) Tryd.func53 rfl rfl (by simp) ?_
 by_cases h0 : i < 0
 ·rw [show atZ i = i by unfold atZ; rw [if_pos (.inl h0)]]
  (refine At_seq (At_region ?_); refine s_as ?_; refine AtR_nil (At_seq (At_seq (At_region ?_))); refine s_mv ?_; refine s_lss ?_; refine s_mv ?_; refine s_no rfl rfl rfl rfl ?_; refine s_no rfl rfl rfl rfl ?_; refine s_pt ?_; refine AtR_nil ?_; refine At_cond_t rfl ?_; refine At_seq (At_region ?_); refine s_mv ?_; refine s_as ?_; refine AtR_nil ?_)
  refine At_ret1 Tryd.func53 rfl (by conv => lhs; whnf) ?_
  exact ⟨rfl, rfl⟩
 by_cases h1 : 600000 < i
 ·rw [show atZ i = i by unfold atZ; rw [if_pos (.inr h1)]]
  (refine At_seq (At_region ?_); refine s_as ?_; refine AtR_nil (At_seq (At_seq (At_region ?_))); refine s_mv ?_; refine s_lss ?_; refine s_mv ?_; refine s_yes rfl rfl rfl rfl ?_; refine g_mv ?_; refine s_yes rfl rfl rfl rfl ?_; refine g_gtr ?_; refine s_pf ?_; refine AtR_nil ?_; refine At_cond_t rfl ?_; refine At_seq (At_region ?_); refine s_mv ?_; refine s_as ?_; refine AtR_nil ?_)
  refine At_ret1 Tryd.func53 rfl (by conv => lhs; whnf) ?_
  exact ⟨rfl, rfl⟩
 rw [show atZ i = i % 3000 by unfold atZ; rw [if_neg (by omega)]]
 (refine At_seq (At_region ?_); refine s_as ?_; refine AtR_nil (At_seq (At_seq (At_region ?_))); refine s_mv ?_; refine s_lss ?_; refine s_mv ?_; refine s_yes rfl rfl rfl rfl ?_; refine g_mv ?_; refine s_yes rfl rfl rfl rfl ?_; refine g_gtr ?_; refine s_pf ?_; refine AtR_nil ?_; refine At_cond_f rfl ?_; refine At_skip (At_seq (At_region ?_)); refine s_mv ?_; refine s_rm ?_; refine s_as ?_; refine AtR_nil ?_)
 refine At_ret1 Tryd.func53 rfl (by conv => lhs; whnf) ?_
 exact ⟨rfl, rfl⟩
set_option maxRecDepth 100000 in
set_option maxHeartbeats 8000000 in
theorem getL_calls (l : BlL) (i : Int) (a : Option Addr) (cap : Nat) (w : World) (ho : Own w 174 2 a l.length cap (blC l)) (hl : l.length ≤ 1000000) :
  Calls Tryd.prog 58 #[.slice a l.length cap, .int .i64 i] w fun e w' => e = .returned (.tuple #[strV ((getL l i).getD []), .bool (getL l i).isSome]) ∧ w = w' := by
 refine calls_at (n := 25) Tryd.func58 rfl rfl (by simp) ?_
 (refine At_seq (At_region ?_); refine s_as ?_; refine s_as ?_; refine AtR_nil (At_seq (At_seq (At_region ?_))); refine s_as ?_; refine AtR_nil (At_block ?_))
 refine At_while (fun k : Nat => [(0, .slice a l.length cap), (1, .int .i64 i), (6, .int .i64 (k : Int))]) (fun k w' => k ≤ l.length ∧ getL l i = getL (l.drop k) i ∧ w = w') (fun k => l.length - k) 0 ⟨rfl, rfl, rfl, trivial⟩ ⟨by omega, rfl, rfl⟩ ?_
 rintro k w1 junk ⟨hk, hg, rfl⟩ again
 by_cases hlt : k < l.length
 ·obtain ⟨b, sp, rfl, _, _, hseg⟩ := own_in ho (by omega)
  obtain ⟨g1, g2⟩ := blC_get hlt
  (refine At_seq (At_seq (At_region ?_)); refine s_mv ?_; refine s_mv ?_; refine s_ln ?_; refine s_lss ?_; refine AtR_nil ?_; refine At_cond_t rfl ?_; refine At_skip (At_seq (At_block (At_seq (At_region ?_)))); refine s_mv ?_; refine s_mv ?_)
  have hdrop : l.drop k = l[k] :: l.drop (k + 1) := by rw [List.drop_eq_getElem_cons hlt]
  refine s_val (x_indexAddr (s := 2) rfl rfl (by omega) (by omega)) ?_
  rw [Int.toNat_natCast]
  (refine s_fa ?_)
  refine s_val (x_load_seg (off := 0) (j := k * 2) (by first | rfl | exact congrArg (fun o => Value.pointer (some ⟨b, o, none⟩)) (by omega)) hseg g1) ?_
  by_cases he : (l[k].1 : Int) = i
  ·have hf : getL l i = some l[k].2 := by
    rw [hg, hdrop]; unfold getL; rw [List.find?_cons_of_pos (by simpa using he)]; rfl
   rw [hf]
   (refine s_mv ?_; refine s_eql ?_; refine AtR_nil ?_; refine At_cond_t rfl ?_; refine At_seq (At_region ?_); refine s_mv ?_; refine s_mv ?_)
   refine s_val (x_indexAddr (s := 2) rfl rfl (by omega) (by omega)) ?_
   rw [Int.toNat_natCast]
   (refine s_fa ?_)
   refine s_val (x_load_seg (off := 0) (j := k * 2 + 1) (by first | rfl | exact congrArg (fun o => Value.pointer (some ⟨b, o, none⟩)) (by omega)) hseg g2) ?_
   (refine s_as ?_; refine s_as ?_; refine AtR_nil ?_)
   refine At_ret2 Tryd.func58 rfl (by conv => lhs; whnf) (by conv => lhs; whnf) ?_
   exact ⟨rfl, rfl⟩
  ·(refine s_mv ?_; refine s_eql ?_; refine AtR_nil ?_; refine At_cond_f rfl ?_; refine At_skip (At_inBlock (At_region ?_)); refine s_mv ?_; refine s_ad ?_; refine s_as ?_; refine AtR_nil ?_)
   refine again (k + 1) _ _ ⟨rfl, rfl, rfl, trivial⟩ ⟨hlt, ?_, rfl⟩ (by omega)
   rw [hg, hdrop]; unfold getL; rw [List.find?_cons_of_neg (by simpa using he)]
 have hie : k = l.length := by omega
 clear again
 subst hie
 have hn : getL l i = none := by rw [hg]; simp [getL]
 rw [hn]
 (refine At_seq (At_seq (At_region ?_)); refine s_mv ?_; refine s_mv ?_; refine s_ln ?_; refine s_lss ?_; refine AtR_nil ?_; refine At_cond_f rfl ?_; refine At_exit rfl ?_; refine At_seq (At_region ?_); refine s_as ?_; refine s_as ?_; refine AtR_nil ?_)
 refine At_ret2 Tryd.func58 rfl (by conv => lhs; whnf) (by conv => lhs; whnf) ?_
 exact ⟨rfl, rfl⟩
def cutLF (n : Int) (e : Nat × List UInt8) : Bool := decide ((e.1 : Int) < n)
set_option maxRecDepth 100000 in
set_option maxHeartbeats 8000000 in
theorem cutL_calls (l : BlL) (n : Int) (a : Option Addr) (cap : Nat) (w : World) (ho : Own w 174 2 a l.length cap (blC l)) (hl : l.length ≤ 100000) :
  Calls Tryd.prog 57 #[.slice a l.length cap, .int .i64 n] w fun e w' => ∃ a' cap', e = .returned (.slice a' (l.filter (cutLF n)).length cap') ∧ Own w' 174 2 a' (l.filter (cutLF n)).length cap' (blC (l.filter (cutLF n))) ∧ (∀ j, blkOf a' j → w.heap.size ≤ j) ∧ Kp No w w' := by
 refine calls_at (n := 28) Tryd.func57 rfl rfl (by simp) ?_
 (refine At_seq (At_region ?_); refine s_as ?_; refine AtR_nil (At_seq (At_region ?_)); refine s_as ?_; refine AtR_nil (At_seq (At_seq (At_region ?_))); refine s_as ?_; refine AtR_nil (At_block ?_))
 refine At_while (fun s : Nat × Option Addr × Nat => [(0, .slice a l.length cap), (1, .int .i64 n), (5, .slice s.2.1 ((l.take s.1).filter (cutLF n)).length s.2.2), (6, .int .i64 (s.1 : Int))])
  (fun s w' => s.1 ≤ l.length ∧ Own w' 174 2 s.2.1 ((l.take s.1).filter (cutLF n)).length s.2.2 (blC ((l.take s.1).filter (cutLF n))) ∧ (∀ j, blkOf s.2.1 j → w.heap.size ≤ j) ∧ Kp No w w') (fun s => l.length - s.1) (0, none, 0) ⟨rfl, rfl, rfl, rfl, trivial⟩
  ⟨by omega, Own.nil _ _ _, fun j hj => by simp [blkOf] at hj, Kp.refl _ _⟩ ?_
 rintro ⟨i, ai, ci⟩ w1 junk ⟨hi, hoi, hfr, K⟩ again
 simp only at hi hoi hfr again ⊢
 by_cases hlt : i < l.length
 ·have ho1 := ho.kp K fun _ _ h => h
  obtain ⟨b, sp, rfl, _, _, hseg⟩ := own_in ho1 (by omega)
  obtain ⟨g1, g2⟩ := blC_get hlt
  have hsub : Seg w1 b (0 + i * 2) [.int .i64 (l[i].1 : Int), strV l[i].2] := fun j hj => by
   have h := hseg (i * 2 + j) (by rw [blC_length]; simp at hj; omega)
   rw [Nat.add_assoc, h]
   match j, hj with
   | 0, _ => exact g1
   | 1, _ => exact g2
  have hsn : (l.take (i + 1)).filter (cutLF n) = (l.take i).filter (cutLF n) ++ if cutLF n l[i] = true then [l[i]] else [] := by
   rw [List.take_succ_eq_append_getElem hlt, List.filter_append]
   congr 1
   by_cases h : cutLF n l[i] = true
   ·rw [if_pos h, List.filter_cons_of_pos h]; rfl
   ·rw [if_neg h, List.filter_cons_of_neg h]; rfl
  have hfl : ((l.take i).filter (cutLF n)).length ≤ 100000 := Nat.le_trans (List.length_filter_le _ _) (by rw [List.length_take]; omega)
  (refine At_seq (At_seq (At_region ?_)); refine s_mv ?_; refine s_mv ?_; refine s_ln ?_; refine s_lss ?_; refine AtR_nil ?_; refine At_cond_t rfl ?_; refine At_skip (At_seq (At_block (At_seq (At_region ?_)))); refine s_mv ?_; refine s_mv ?_)
  refine s_val (x_indexAddr (s := 2) rfl rfl (by omega) (by omega)) ?_
  rw [Int.toNat_natCast]
  (refine s_fa ?_)
  refine s_val (x_load_seg (off := 0) (j := i * 2) (by first | rfl | exact congrArg (fun o => Value.pointer (some ⟨b, o, none⟩)) (by omega)) hseg g1) ?_
  by_cases he : (l[i].1 : Int) < n
  ·have hk : cutLF n l[i] = true := decide_eq_true he
   rw [if_pos hk] at hsn
   (refine s_mv ?_; refine s_lss ?_; refine AtR_nil ?_; refine At_cond_t rfl ?_; refine At_region ?_; refine s_mv ?_; refine s_mv ?_; refine s_mv ?_)
   refine s_val (x_indexAddr (s := 2) rfl rfl (by omega) (by omega)) ?_
   rw [Int.toNat_natCast]
   refine s_val (x_load_segN rfl hsub rfl) ?_
   refine AtR_go rfl (G_val (r_buildSliceA (s := 2) (z := .agg z174.toArray) rfl (by rfl) (by simp [Value.cells, z174])) ?_)
   rintro _ w2 ⟨b2, rfl, hb2, e2⟩
   have B2 : Blk w2 b2 174 (0, 0) [.int .i64 (l[i].1 : Int), strV l[i].2] := e2.blk
   have k2 : Kp No w1 w2 := e2.kp (.inr (by omega))
   clear e2
   have ho2 := hoi.kp k2 fun _ _ h => h
   have hsrc : Src Tryd.prog 2 102 (.slice (some ⟨b2, 0, none⟩) 1 1) 1 [.int .i64 (l[i].1 : Int), strV l[i].2] w2 :=
    Src.ofSlice w2 (e' := 174) (by exact (inferInstance : TU Tryd.prog 102 (.slice 174)).h) ⟨b2, 0, none⟩ 1 1 _ (by rfl) (fun j u hj => by rw [add_none, Nat.zero_add, B2.cell, hj]) (fun u hu => by simp at hu; rcases hu with rfl | rfl <;> rfl)
   refine AtR_go rfl (AtG_append (tx := 102) (s := 2) rfl rfl ho2 hsrc (by simp [Value.cells, z174]) (by omega) (by simp only [maxLen]; omega) (by omega) fun a3 c3 w3 ho3 k3 hf3 => ?_)
   have k13 : Kp No w w3 := (K.trans k2).trans' k3 fun j hj => .inr (hfr j hj)
   (refine s_as ?_; refine AtR_nil (At_inBlock (At_region ?_)); refine s_mv ?_; refine s_ad ?_; refine s_as ?_; refine AtR_nil ?_)
   refine again (i + 1, a3, c3) _ _ ⟨rfl, rfl, by simp only [hsn, List.length_append]; rfl, rfl, trivial⟩ ⟨hlt, ?_, fun j hj => ?_, k13⟩ (by simp only; omega)
   ·simp only
    rw [hsn, List.length_append, blC_app]
    exact ho3
   ·rcases hf3 with rfl | ⟨b', rfl, hb⟩
    ·exact hfr j hj
    ·simp [blkOf] at hj; have := (K.trans k2).size; omega
  ·have hk : ¬ cutLF n l[i] = true := fun h => he (of_decide_eq_true h)
   rw [if_neg hk, List.append_nil] at hsn
   (refine s_mv ?_; refine s_lss ?_; refine AtR_nil ?_; refine At_cond_f rfl ?_; refine At_skip (At_inBlock (At_region ?_)); refine s_mv ?_; refine s_ad ?_; refine s_as ?_; refine AtR_nil ?_)
   exact again (i + 1, ai, ci) _ _ ⟨rfl, rfl, by simp only [hsn]; rfl, rfl, trivial⟩ ⟨hlt, by simp only; rw [hsn]; exact hoi, hfr, K⟩ (by simp only; omega)
 have hie : i = l.length := by omega
 clear again
 subst hie
 rw [List.take_length] at hoi ⊢
 (refine At_seq (At_seq (At_region ?_)); refine s_mv ?_; refine s_mv ?_; refine s_ln ?_; refine s_lss ?_; refine AtR_nil ?_; refine At_cond_f rfl ?_; refine At_exit rfl ?_; refine At_seq (At_region ?_); refine s_mv ?_; refine s_as ?_; refine AtR_nil ?_)
 refine At_ret1 Tryd.func57 rfl (by conv => lhs; whnf) ?_
 exact ⟨ai, ci, rfl, hoi, hfr, K⟩
def wouLF (n : Int) (e : Nat × List UInt8) : Bool := decide ((e.1 : Int) ≠ n)
set_option maxRecDepth 100000 in
set_option maxHeartbeats 8000000 in
theorem wouL_calls (l : BlL) (n : Int) (a : Option Addr) (cap : Nat) (w : World) (ho : Own w 174 2 a l.length cap (blC l)) (hl : l.length ≤ 100000) :
  Calls Tryd.prog 63 #[.slice a l.length cap, .int .i64 n] w fun e w' => ∃ a' cap', e = .returned (.slice a' (l.filter (wouLF n)).length cap') ∧ Own w' 174 2 a' (l.filter (wouLF n)).length cap' (blC (l.filter (wouLF n))) ∧ (∀ j, blkOf a' j → w.heap.size ≤ j) ∧ Kp No w w' := by
 refine calls_at (n := 28) Tryd.func63 rfl rfl (by simp) ?_
 (refine At_seq (At_region ?_); refine s_as ?_; refine AtR_nil (At_seq (At_region ?_)); refine s_as ?_; refine AtR_nil (At_seq (At_seq (At_region ?_))); refine s_as ?_; refine AtR_nil (At_block ?_))
 refine At_while (fun s : Nat × Option Addr × Nat => [(0, .slice a l.length cap), (1, .int .i64 n), (5, .slice s.2.1 ((l.take s.1).filter (wouLF n)).length s.2.2), (6, .int .i64 (s.1 : Int))])
  (fun s w' => s.1 ≤ l.length ∧ Own w' 174 2 s.2.1 ((l.take s.1).filter (wouLF n)).length s.2.2 (blC ((l.take s.1).filter (wouLF n))) ∧ (∀ j, blkOf s.2.1 j → w.heap.size ≤ j) ∧ Kp No w w') (fun s => l.length - s.1) (0, none, 0) ⟨rfl, rfl, rfl, rfl, trivial⟩
  ⟨by omega, Own.nil _ _ _, fun j hj => by simp [blkOf] at hj, Kp.refl _ _⟩ ?_
 rintro ⟨i, ai, ci⟩ w1 junk ⟨hi, hoi, hfr, K⟩ again
 simp only at hi hoi hfr again ⊢
 by_cases hlt : i < l.length
 ·have ho1 := ho.kp K fun _ _ h => h
  obtain ⟨b, sp, rfl, _, _, hseg⟩ := own_in ho1 (by omega)
  obtain ⟨g1, g2⟩ := blC_get hlt
  have hsub : Seg w1 b (0 + i * 2) [.int .i64 (l[i].1 : Int), strV l[i].2] := fun j hj => by
   have h := hseg (i * 2 + j) (by rw [blC_length]; simp at hj; omega)
   rw [Nat.add_assoc, h]
   match j, hj with
   | 0, _ => exact g1
   | 1, _ => exact g2
  have hsn : (l.take (i + 1)).filter (wouLF n) = (l.take i).filter (wouLF n) ++ if wouLF n l[i] = true then [l[i]] else [] := by
   rw [List.take_succ_eq_append_getElem hlt, List.filter_append]
   congr 1
   by_cases h : wouLF n l[i] = true
   ·rw [if_pos h, List.filter_cons_of_pos h]; rfl
   ·rw [if_neg h, List.filter_cons_of_neg h]; rfl
  have hfl : ((l.take i).filter (wouLF n)).length ≤ 100000 := Nat.le_trans (List.length_filter_le _ _) (by rw [List.length_take]; omega)
  (refine At_seq (At_seq (At_region ?_)); refine s_mv ?_; refine s_mv ?_; refine s_ln ?_; refine s_lss ?_; refine AtR_nil ?_; refine At_cond_t rfl ?_; refine At_skip (At_seq (At_block (At_seq (At_region ?_)))); refine s_mv ?_; refine s_mv ?_)
  refine s_val (x_indexAddr (s := 2) rfl rfl (by omega) (by omega)) ?_
  rw [Int.toNat_natCast]
  (refine s_fa ?_)
  refine s_val (x_load_seg (off := 0) (j := i * 2) (by first | rfl | exact congrArg (fun o => Value.pointer (some ⟨b, o, none⟩)) (by omega)) hseg g1) ?_
  by_cases he : (l[i].1 : Int) ≠ n
  ·have hk : wouLF n l[i] = true := decide_eq_true he
   rw [if_pos hk] at hsn
   (refine s_mv ?_; refine s_neq ?_; refine AtR_nil ?_; refine At_cond_t rfl ?_; refine At_region ?_; refine s_mv ?_; refine s_mv ?_; refine s_mv ?_)
   refine s_val (x_indexAddr (s := 2) rfl rfl (by omega) (by omega)) ?_
   rw [Int.toNat_natCast]
   refine s_val (x_load_segN rfl hsub rfl) ?_
   refine AtR_go rfl (G_val (r_buildSliceA (s := 2) (z := .agg z174.toArray) rfl (by rfl) (by simp [Value.cells, z174])) ?_)
   rintro _ w2 ⟨b2, rfl, hb2, e2⟩
   have B2 : Blk w2 b2 174 (0, 0) [.int .i64 (l[i].1 : Int), strV l[i].2] := e2.blk
   have k2 : Kp No w1 w2 := e2.kp (.inr (by omega))
   clear e2
   have ho2 := hoi.kp k2 fun _ _ h => h
   have hsrc : Src Tryd.prog 2 102 (.slice (some ⟨b2, 0, none⟩) 1 1) 1 [.int .i64 (l[i].1 : Int), strV l[i].2] w2 :=
    Src.ofSlice w2 (e' := 174) (by exact (inferInstance : TU Tryd.prog 102 (.slice 174)).h) ⟨b2, 0, none⟩ 1 1 _ (by rfl) (fun j u hj => by rw [add_none, Nat.zero_add, B2.cell, hj]) (fun u hu => by simp at hu; rcases hu with rfl | rfl <;> rfl)
   refine AtR_go rfl (AtG_append (tx := 102) (s := 2) rfl rfl ho2 hsrc (by simp [Value.cells, z174]) (by omega) (by simp only [maxLen]; omega) (by omega) fun a3 c3 w3 ho3 k3 hf3 => ?_)
   have k13 : Kp No w w3 := (K.trans k2).trans' k3 fun j hj => .inr (hfr j hj)
   (refine s_as ?_; refine AtR_nil (At_inBlock (At_region ?_)); refine s_mv ?_; refine s_ad ?_; refine s_as ?_; refine AtR_nil ?_)
   refine again (i + 1, a3, c3) _ _ ⟨rfl, rfl, by simp only [hsn, List.length_append]; rfl, rfl, trivial⟩ ⟨hlt, ?_, fun j hj => ?_, k13⟩ (by simp only; omega)
   ·simp only
    rw [hsn, List.length_append, blC_app]
    exact ho3
   ·rcases hf3 with rfl | ⟨b', rfl, hb⟩
    ·exact hfr j hj
    ·simp [blkOf] at hj; have := (K.trans k2).size; omega
  ·have hk : ¬ wouLF n l[i] = true := fun h => he (of_decide_eq_true h)
   rw [if_neg hk, List.append_nil] at hsn
   (refine s_mv ?_; refine s_neq ?_; refine AtR_nil ?_; refine At_cond_f rfl ?_; refine At_skip (At_inBlock (At_region ?_)); refine s_mv ?_; refine s_ad ?_; refine s_as ?_; refine AtR_nil ?_)
   exact again (i + 1, ai, ci) _ _ ⟨rfl, rfl, by simp only [hsn]; rfl, rfl, trivial⟩ ⟨hlt, by simp only; rw [hsn]; exact hoi, hfr, K⟩ (by simp only; omega)
 have hie : i = l.length := by omega
 clear again
 subst hie
 rw [List.take_length] at hoi ⊢
 (refine At_seq (At_seq (At_region ?_)); refine s_mv ?_; refine s_mv ?_; refine s_ln ?_; refine s_lss ?_; refine AtR_nil ?_; refine At_cond_f rfl ?_; refine At_exit rfl ?_; refine At_seq (At_region ?_); refine s_mv ?_; refine s_as ?_; refine AtR_nil ?_)
 refine At_ret1 Tryd.func63 rfl (by conv => lhs; whnf) ?_
 exact ⟨ai, ci, rfl, hoi, hfr, K⟩
end Go.Proofs.YtfngacepjcdlnaaDoor
namespace Go.Mt
open Go Go.Kx Go.Proofs.YtfngacepjcdlnaaDoor
def totF (xs : List Nat) : Nat → Nat
 | 0 => 0
 | d + 1 => totF xs d + runs (roomN (d + 1)) none xs
def lastZ : Option Nat → Int
 | none => -1
 | some z => (z : Int)
theorem lastZ_eq (o : Option Nat) (x : Nat) : ((x : Int) = lastZ o) ↔ o = some x := by
 cases o with
 | none => simp [lastZ]
 | some z => simp only [lastZ, Option.some.injEq]; omega
theorem runs_le (m : Nat) : ∀ (o : Option Nat) (xs : List Nat), runs m o xs ≤ xs.length
 | _, [] => Nat.le_refl _
 | o, x :: xs => by rw [runs, List.length_cons]; have := runs_le m (some (x / m)) xs; split <;> omega
theorem totF_tot {xs : List Nat} (h : xs.Pairwise (· < ·)) : ∀ d, xs.length + totF xs d = tot d xs
 | 0 => by rw [totF, tot, show roomN 0 = 1 from rfl, runs_one h fun z hz => by cases hz]; rfl
 | d + 1 => by rw [totF, tot, ← totF_tot h d]; omega
theorem totF_le (xs : List Nat) : ∀ d, totF xs d ≤ d * xs.length
 | 0 => by simp [totF]
 | d + 1 => by rw [totF, Nat.add_mul, Nat.one_mul]; have := totF_le xs d; have := runs_le (roomN (d + 1)) none xs; omega
end Go.Mt
namespace Go.Proofs.YtfngacepjcdlnaaDoor
open Go Go.Kx Go.Kr Go.Mt
set_option maxRecDepth 100000 in
set_option maxHeartbeats 16000000 in
theorem countL_calls (l : BlL) (deep : Nat) (a : Option Addr) (cap : Nat) (w : World) (ho : Own w 174 2 a l.length cap (blC l)) (hl : l.length ≤ 100000) (hd : deep ≤ 5) (hb : ∀ e ∈ l, e.1 ≤ 1000000) :
  Calls Tryd.prog 93 #[.slice a l.length cap, .int .i64 (deep : Int)] w fun e w' => e = .returned (.int .i64 ((l.length + totF (l.map Prod.fst) deep : Nat) : Int)) ∧ Kp No w w' := by
 refine calls_at (n := 38) Tryd.func93 rfl rfl (by simp) ?_
 have hml : (l.map Prod.fst).length = l.length := List.length_map _
 (refine At_seq (At_region ?_); refine s_as ?_; refine AtR_nil (At_seq (At_region ?_)); refine s_mv ?_; refine s_ln ?_; refine s_as ?_; refine AtR_nil (At_seq (At_seq (At_region ?_))); refine s_as ?_; refine AtR_nil (At_block ?_))
 refine At_while (fun d : Nat => [(0, .slice a l.length cap), (1, .int .i64 (deep : Int)), (5, .int .i64 ((l.length + totF (l.map Prod.fst) d : Nat) : Int)), (6, .int .i64 ((d + 1 : Nat) : Int))])
  (fun d w' => d ≤ deep ∧ Kp No w w') (fun d => deep - d) 0 ⟨rfl, rfl, rfl, rfl, trivial⟩ ⟨by omega, Kp.refl _ _⟩ ?_
 rintro d w1 junk ⟨hdd, K⟩ again
 have htl := totF_le (l.map Prod.fst) d
 have hdm : d * l.length ≤ 5 * l.length := Nat.mul_le_mul_right _ (by omega)
 rw [hml] at htl
 by_cases hlt : d < deep
 ·have hr5 := roomN_le (d := d + 1) (by omega)
  have hrp := roomN_pos (d + 1)
  (refine At_seq (At_seq (At_region ?_)); refine s_mv ?_; refine s_mv ?_; refine s_leq ?_; refine AtR_nil ?_; refine At_cond_t rfl ?_; refine At_skip (At_seq (At_block (At_seq (At_region ?_)))); refine s_as ?_; refine AtR_nil (At_seq (At_region ?_)); refine s_as ?_; refine AtR_nil (At_block ?_))
  refine At_while (fun s : Nat × Nat × Option Nat => [(0, .slice a l.length cap), (1, .int .i64 (deep : Int)), (5, .int .i64 (s.2.1 : Int)), (6, .int .i64 ((d + 1 : Nat) : Int)), (7, .int .i64 (lastZ s.2.2)), (8, .int .i64 (s.1 : Int))])
   (fun s w' => s.1 ≤ l.length ∧ s.2.1 + runs (roomN (d + 1)) s.2.2 ((l.map Prod.fst).drop s.1) = l.length + totF (l.map Prod.fst) (d + 1) ∧ Kp No w w') (fun s => l.length - s.1) (0, l.length + totF (l.map Prod.fst) d, none) ⟨rfl, rfl, rfl, rfl, rfl, rfl, trivial⟩
   ⟨by omega, by simp only [List.drop_zero, totF]; omega, K⟩ ?_
  rintro ⟨k, n, last⟩ w2 junk2 ⟨hk, hsum, K2⟩ again2
  simp only at hk hsum again2 ⊢
  have htl2 := totF_le (l.map Prod.fst) (d + 1)
  have hdm2 : (d + 1) * l.length ≤ 5 * l.length := Nat.mul_le_mul_right _ (by omega)
  rw [hml] at htl2
  by_cases hk2 : k < l.length
  ·have ho2 := ho.kp K2 fun _ _ h => h
   obtain ⟨b, sp, rfl, hBB, _, hseg⟩ := own_in ho2 (by omega)
   obtain ⟨g1, _⟩ := blC_get hk2
   have hbk := hb l[k] (List.getElem_mem hk2)
   have hdrop : (l.map Prod.fst).drop k = l[k].1 :: (l.map Prod.fst).drop (k + 1) := by rw [List.drop_eq_getElem_cons (by omega), List.getElem_map]
   rw [hdrop, runs] at hsum
   (refine At_seq (At_seq (At_region ?_)); refine s_mv ?_; refine s_mv ?_; refine s_ln ?_; refine s_lss ?_; refine AtR_nil ?_; refine At_cond_t rfl ?_; refine At_skip (At_seq (At_block ?_)); refine At_seq ?_)
   have kd := Kp.drew (S := No) (w := w2)
   let S : World → Prop := fun w' => Seg w' b 0 (blC l)
   have hS : S w2.drew := hseg.kp kd (fun h => h) hBB.lt
   refine At_draw S rfl ?_
   (apply AtH_take 0 rfl (by decide +kernel) (by exact rfl); (focus (intro wx hx; skip; exact x_move (by conv => lhs; whnf))); (focus (exact hS)))
   (apply AtH_take 1 rfl (by decide +kernel) (by exact rfl); (focus (intro wx hx; skip; exact x_move (by conv => lhs; whnf))); (focus (exact hS)))
   (apply AtH_take 5 rfl (by decide +kernel) (by exact rfl); (focus (intro wx hx; skip; exact x_move (by conv => lhs; whnf))); (focus (exact hS)))
   refine AtH_take 2 rfl (by decide +kernel) (by exact rfl) (fun wx hx => x_indexAddr (s := 2) rfl rfl (by omega) (by omega)) hS ?_
   rw [Int.toNat_natCast]
   (apply AtH_take 3 rfl (by decide +kernel) (by exact rfl); (focus (intro wx hx; skip; exact x_fieldAddrN rfl (by first | exact Nat.zero_add _ | exact Nat.add_zero _ | (simp only [Nat.reduceAdd] <;> rfl) | exact rfl))); (focus (exact hS)))
   refine AtH_take 4 rfl (by decide +kernel) (by exact rfl) (fun wx hx => x_load_seg (off := 0) (j := k * 2) (by first | rfl | exact congrArg (fun o => Value.pointer (some ⟨b, o, none⟩)) (by omega)) hx g1) hS ?_
   refine AtH_call 6 rfl (by decide +kernel) (by exact rfl) x_call  (roomR_calls ((d + 1 : Nat) : Int) _ (by omega)) ?_
   rintro _ _ ⟨rfl, rfl⟩
   refine ⟨_, rfl, hS, ?_⟩
   rw [roomZ_nat (by omega)]
   refine AtH_val 7 rfl (by decide +kernel) (by exact rfl) (x_quoI rfl rfl (by omega) (by omega) (by omega)) hS ?_
   rw [show (l[k].1 : Int) / ((roomN (d + 1) : Nat) : Int) = ((l[k].1 / roomN (d + 1) : Nat) : Int) from (Int.natCast_ediv _ _).symm]
   (apply AtH_take 8 rfl (by decide +kernel) (by exact rfl); (focus (intro wx hx; skip; exact x_assign (by conv => lhs; whnf))); (focus (exact hS)))
   refine AtH_done (by decide +kernel) ?_
   have hrl := runs_le (roomN (d + 1)) (some (l[k].1 / roomN (d + 1))) ((l.map Prod.fst).drop (k + 1))
   by_cases he : last = some (l[k].1 / roomN (d + 1))
   ·rw [if_pos he] at hsum
    have hz := (lastZ_eq last (l[k].1 / roomN (d + 1))).2 he
    generalize l[k].1 / roomN (d + 1) = q at *
    (refine At_seq (At_seq (At_region ?_)); refine s_mv ?_; refine s_mv ?_; refine s_neq ?_; refine AtR_nil ?_; refine At_cond_f rfl ?_; refine At_skip (At_region ?_); refine s_mv ?_; refine s_as ?_; refine AtR_nil (At_inBlock (At_region ?_)); refine s_mv ?_; refine s_ad ?_; refine s_as ?_; refine AtR_nil ?_)
    exact again2 (k + 1, n, some q) _ _ ⟨rfl, rfl, rfl, rfl, rfl, rfl, trivial⟩ ⟨hk2, by simp only; omega, K2.trans kd⟩ (by simp only; omega)
   ·rw [if_neg he] at hsum
    have hz : ¬ ((l[k].1 / roomN (d + 1) : Nat) : Int) = lastZ last := fun h => he ((lastZ_eq _ _).1 h)
    generalize l[k].1 / roomN (d + 1) = q at *
    (refine At_seq (At_seq (At_region ?_)); refine s_mv ?_; refine s_mv ?_; refine s_neq ?_; refine AtR_nil ?_; refine At_cond_t rfl ?_; refine At_region ?_; refine s_mv ?_; refine s_ad ?_; refine s_as ?_; refine AtR_nil (At_region ?_); refine s_mv ?_; refine s_as ?_; refine AtR_nil (At_inBlock (At_region ?_)); refine s_mv ?_; refine s_ad ?_; refine s_as ?_; refine AtR_nil ?_)
    exact again2 (k + 1, n + 1, some q) _ _ ⟨rfl, rfl, rfl, rfl, rfl, rfl, trivial⟩ ⟨hk2, by simp only; omega, K2.trans kd⟩ (by simp only; omega)
  have hie : k = l.length := by omega
  clear again2
  subst hie
  have hn : n = l.length + totF (l.map Prod.fst) (d + 1) := by
   rw [List.drop_of_length_le (by omega)] at hsum
   simpa [runs] using hsum
  subst hn
  (refine At_seq (At_seq (At_region ?_)); refine s_mv ?_; refine s_mv ?_; refine s_ln ?_; refine s_lss ?_; refine AtR_nil ?_; refine At_cond_f rfl ?_; refine At_exit rfl ?_; refine At_inBlock (At_region ?_); refine s_mv ?_; refine s_ad ?_; refine s_as ?_; refine AtR_nil ?_)
  exact again (d + 1) _ _ ⟨rfl, rfl, rfl, rfl, trivial⟩ ⟨hlt, K2⟩ (by omega)
 have hie : d = deep := by omega
 clear again
 subst hie
 (refine At_seq (At_seq (At_region ?_)); refine s_mv ?_; refine s_mv ?_; refine s_leq ?_; refine AtR_nil ?_; refine At_cond_f rfl ?_; refine At_exit rfl ?_; refine At_seq (At_region ?_); refine s_mv ?_; refine s_as ?_; refine AtR_nil ?_)
 refine At_ret1 Tryd.func93 rfl (by conv => lhs; whnf) ?_
 exact ⟨rfl, K⟩
end Go.Proofs.YtfngacepjcdlnaaDoor
