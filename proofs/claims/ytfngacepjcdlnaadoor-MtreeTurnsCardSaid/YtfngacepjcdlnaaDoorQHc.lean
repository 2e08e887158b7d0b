/- The reference's SHA-512: a block. | Strings of octets. | The reference's SHA-512: a text. -/
import Derived.Test.YtfngacepjcdlnaaDoorQHb
import Derived.Laws.IdiomStrings
set_option linter.unusedVariables false
namespace Go.Proofs.YtfngacepjcdlnaaDoor
open Go Go.Kx
theorem beW_step (l : List UInt8) (i j : Nat) (h : 8 * i + j < l.length) (hj : j < 8) : beW (((l.drop (8 * i)).take j)) * 256 + BitVec.ofNat 64 (l.getD (8 * i + j) 0).toNat = beW ((l.drop (8 * i)).take (j + 1)) := by
 rw [List.take_succ_eq_append_getElem (by simp; omega), beW_snoc]
 simp [List.getD, h]
theorem wordsOf_get (l : List UInt8) (h : 128 ≤ l.length) (i : Nat) (hi : i < 16) : (wordsOf l).getD i 0 = beW ((l.drop (8 * i)).take 8) := by
 rw [wordsOf, wordsTo_get _ _ _ hi, List.drop_take, List.take_take, Nat.min_eq_left (by omega)]
theorem take_snoc {L : List (BitVec 64)} {i : Nat} (h : i < L.length) : L.take (i + 1) = L.take i ++ [L.getD i 0] := by
 rw [List.take_succ_eq_append_getElem h, getDw_lt h]
set_option maxRecDepth 100000 in
set_option maxHeartbeats 8000000 in
theorem one_calls (H : List (BitVec 64)) (l : List UInt8) (ah : Option Addr) (caph : Nat) (a : Option Addr) (len cap : Nat) (w : World) (hH : H.length = 8) (hh : Sl w .u64 ah 8 caph (ws H)) (hs : Sl w .u8 a len cap (bs8 l)) (hl : 128 ≤ len) :
  Calls Tryd.prog 133 #[.slice ah 8 caph, .slice a len cap] w
   fun e w' => ∃ b, e = .returned (.slice (some ⟨b, 0, none⟩) 8 8) ∧ Blk w' b 193 (0, 0) (ints .u64 (ws (takeB H l))) ∧ w.heap.size ≤ b ∧ Kp No w w' := by
 have hll := hs.len_eq
 have hmx := hs.max
 have hc := hs.le
 simp only [bs8_length] at hll
 rcases hs.mem with ⟨rfl, h00⟩ | ⟨b, off, rfl, hlt, hsg⟩
 ·omega
 rcases hh.mem with ⟨rfl, h00⟩ | ⟨bh, oh, rfl, hlth, hsh⟩
 ·have := hh.le; omega
 refine calls_at (n := 228) Tryd.func133 rfl rfl (by simp) ?_
 (refine At_seq (At_region ?_); refine s_as ?_; refine AtR_nil (At_seq (At_region ?_)); refine s_as ?_; refine AtR_nil (At_seq (At_seq (At_region ?_))); refine s_as ?_; refine AtR_nil (At_block ?_))
 refine At_while (fun s : Nat × (Option Addr × Nat) => [(0, .slice (some ⟨bh, oh, none⟩) 8 caph), (1, .slice (some ⟨b, off, none⟩) len cap), (5, .slice s.2.1 s.1 s.2.2), (6, .int .i64 (s.1 : Int))])
  (fun s w' => s.1 ≤ 16 ∧ Own w' 193 1 s.2.1 s.1 s.2.2 (ints .u64 (ws ((wordsOf l).take s.1))) ∧ (∀ j, blkOf s.2.1 j → w.heap.size ≤ j) ∧ Kp No w w') (fun s => 16 - s.1) (0, (none, 0)) ⟨rfl, rfl, rfl, rfl, trivial⟩
  ⟨by omega, Own.nil _ _ _, fun j hj => by simp [blkOf] at hj, Kp.refl _ _⟩ ?_
 rintro ⟨i, ⟨a1, cap1⟩⟩ w1 junk ⟨hi, ho, hf, K⟩ again
 simp only at hi ho hf again ⊢
 have hsg1 : Seg w1 b off (ints .u8 (bs8 l)) := hsg.kp K id hlt
 by_cases h16 : i < 16
 ·(refine At_seq (At_seq (At_region ?_)); refine s_mv ?_; refine s_lss ?_; refine AtR_nil ?_; refine At_cond_t rfl ?_; refine At_skip (At_seq (At_block (At_seq (At_region ?_)))); refine s_as ?_; refine AtR_nil (At_seq (At_seq (At_region ?_))); refine s_as ?_; refine AtR_nil (At_block ?_))
  refine At_while (fun j : Nat => [(0, .slice (some ⟨bh, oh, none⟩) 8 caph), (1, .slice (some ⟨b, off, none⟩) len cap), (5, .slice a1 i cap1), (6, .int .i64 (i : Int)), (7, .int .u64 (uw (beW ((l.drop (8 * i)).take j)))), (8, .int .i64 (j : Int))])
   (fun j w' => j ≤ 8 ∧ w' = w1) (fun j => 8 - j) 0 ⟨rfl, rfl, rfl, rfl, rfl, rfl, trivial⟩ ⟨by omega, rfl⟩ ?_
  rintro j w1 junk2 ⟨hj, rfl⟩ again2
  by_cases hj8 : j < 8
  ·(refine At_seq (At_seq (At_region ?_)); refine s_mv ?_; refine s_lss ?_; refine AtR_nil ?_; refine At_cond_t rfl ?_; refine At_skip (At_seq (At_block (At_region ?_))); refine s_mv ?_)
   refine s_val (x_mulW (b := 256) rfl rfl) ?_
   (refine s_mv ?_; refine s_mv ?_; refine s_ml ?_; refine s_mv ?_; refine s_ad ?_; refine s_ia ?_; refine s_ldw ?_; refine s_bw ?_; refine s_dw ?_; refine s_as ?_; refine AtR_nil (At_inBlock (At_region ?_)); refine s_mv ?_; refine s_ad ?_; refine s_as ?_; refine AtR_nil ?_)
   refine again2 (j + 1) _ _ ⟨rfl, rfl, rfl, rfl, ?_, rfl, trivial⟩ ⟨hj8, rfl⟩ (by omega)
   rw [← beW_step l i j (by omega) hj8, show (8 * (i : Int) + (j : Int)).toNat = 8 * i + j by omega]
   rfl
  have hje : j = 8 := by omega
  subst hje
  clear again2
  rw [← wordsOf_get l (by omega) i h16]
  have hwl : (wordsOf l).length = 16 := by simp [wordsOf]
  (refine At_seq (At_seq (At_region ?_)); refine s_mv ?_; refine s_lss ?_; refine AtR_nil ?_; refine At_cond_f rfl ?_; refine At_exit rfl ?_; refine At_region ?_; refine s_mv ?_; refine s_mv ?_)
  refine AtR_go rfl (AtG_buildSlice1 (ops := [_]) rfl rfl (by omega) rfl rfl rfl fun b3 w3 hb3 e3 => ?_)
  have B3 : Blk w3 b3 193 (0, 0) (ints .u64 (ws [(wordsOf l).getD i 0])) := e3.blk
  have ho3 := ho.kp (e3.kp (S := No) (.inr (by omega))) (fun _ _ => id)
  have K3 := K.trans (e3.kp (.inr (by omega)))
  clear e3 ho
  refine AtR_go rfl (AtG_append (tx := 222) rfl rfl ho3 ((B3.sl (m := 1) rfl (by omega)).src (T := 222) rfl) rfl (by omega) (by simp only [maxLen]; omega) (by omega) fun a' cap' w4 ho4 k4 hfr4 => ?_)
  have hzK := K3.size
  (refine s_as ?_; refine AtR_nil (At_inBlock (At_region ?_)); refine s_mv ?_; refine s_ad ?_; refine s_as ?_; refine AtR_nil ?_)
  refine again (i + 1, (a', cap')) _ _ ⟨rfl, rfl, rfl, rfl, trivial⟩ ⟨h16, own_eq ho4 ?_ rfl, ?_, K3.trans' k4 (fun j hj => .inr (hf j hj))⟩ (by simp only; omega)
  ·rw [take_snoc (by omega), ws_app]; simp [ints]
  ·rcases hfr4 with rfl | ⟨b', rfl, hb'⟩
   ·exact hf
   ·intro j hj; simp [blkOf] at hj; omega
 have hie : i = 16 := by omega
 subst hie
 clear again
 rw [List.take_of_length_le (by simp [wordsOf])] at ho
 (refine At_seq (At_seq (At_region ?_)); refine s_mv ?_; refine s_lss ?_; refine AtR_nil ?_; refine At_cond_f rfl ?_; refine At_exit rfl ?_; refine At_seq (At_seq (At_region ?_)); refine s_as ?_; refine AtR_nil (At_block ?_))
 refine At_while (fun s : Nat × (Option Addr × Nat) => [(0, .slice (some ⟨bh, oh, none⟩) 8 caph), (5, .slice s.2.1 (16 + s.1) s.2.2), (9, .int .i64 ((16 + s.1 : Nat) : Int))])
  (fun s w' => s.1 ≤ 64 ∧ Own w' 193 1 s.2.1 (16 + s.1) s.2.2 (ints .u64 (ws (sch l s.1))) ∧ (∀ j, blkOf s.2.1 j → w.heap.size ≤ j) ∧ Kp No w w') (fun s => 64 - s.1) (0, (a1, cap1)) ⟨rfl, rfl, rfl, trivial⟩
  ⟨by omega, ho, hf, K⟩ ?_
 clear ho hf K hsg1
 rintro ⟨i, ⟨a1, cap1⟩⟩ w1 junk ⟨hi, ho, hf, K⟩ again
 simp only at hi ho hf again ⊢
 have hsl := sch_length l i
 have hos := ho.sl
 rcases hos.mem with ⟨rfl, h00⟩ | ⟨bW, oW, rfl, hbW, hsW⟩
 ·have := hos.le; omega
 by_cases h64 : i < 64
 ·have kd := Kp.drew (S := No) (w := w1)
  (refine At_seq (At_seq (At_region ?_)); refine s_mv ?_; refine s_lss ?_; refine AtR_nil ?_; refine At_cond_t rfl ?_; refine At_skip (At_seq (At_block ?_)); refine At_seq ?_)
  refine At_draw (fun w' => Seg w' bW oW (ints .u64 (ws (sch l i)))) rfl ?_
  have hS : Seg w1.drew bW oW (ints .u64 (ws (sch l i))) := hsW
  (apply AtH_take 0 rfl (by decide +kernel) (by exact rfl); (focus (intro wx hx; skip; exact x_move (by conv => lhs; whnf))); (focus (exact hS)))
  (apply AtH_take 1 rfl (by decide +kernel) (by exact rfl); (focus (intro wx hx; skip; exact x_move (by conv => lhs; whnf))); (focus (exact hS)))
  (apply AtH_take 2 rfl (by decide +kernel) (by exact rfl); (focus (intro wx hx; skip; exact x_sub64 rfl rfl (by omega) (by omega))); (focus (exact hS)))
  (apply AtH_take 3 rfl (by decide +kernel) (by exact rfl); (focus (intro wx hx; skip; exact x_indexAddr1 rfl rfl (by omega) (by omega))); (focus (exact hS)))
  (apply AtH_take 4 rfl (by decide +kernel) (by exact rfl); (focus (intro wx hx; skip; exact x_load_sw rfl (by assumption) (by omega))); (focus (exact hS)))
  (apply AtH_take 5 rfl (by decide +kernel) (by exact rfl); (focus (intro wx hx; skip; exact x_move (by conv => lhs; whnf))); (focus (exact hS)))
  (apply AtH_take 6 rfl (by decide +kernel) (by exact rfl); (focus (intro wx hx; skip; exact x_move (by conv => lhs; whnf))); (focus (exact hS)))
  (apply AtH_take 7 rfl (by decide +kernel) (by exact rfl); (focus (intro wx hx; skip; exact x_sub64 rfl rfl (by omega) (by omega))); (focus (exact hS)))
  (apply AtH_take 8 rfl (by decide +kernel) (by exact rfl); (focus (intro wx hx; skip; exact x_indexAddr1 rfl rfl (by omega) (by omega))); (focus (exact hS)))
  (apply AtH_take 9 rfl (by decide +kernel) (by exact rfl); (focus (intro wx hx; skip; exact x_load_sw rfl (by assumption) (by omega))); (focus (exact hS)))
  (apply AtH_take 10 rfl (by decide +kernel) (by exact rfl); (focus (intro wx hx; skip; exact x_assign (by conv => lhs; whnf))); (focus (exact hS)))
  (apply AtH_take 11 rfl (by decide +kernel) (by exact rfl); (focus (intro wx hx; skip; exact x_assign (by conv => lhs; whnf))); (focus (exact hS)))
  refine AtH_done (by decide +kernel) ?_
  (refine At_seq (At_region ?_); refine s_mv ?_)
  refine s_call x_call (rotr_calls _ 19 _ (by omega)) ?_
  rintro _ w2 ⟨rfl, k2⟩
  refine ⟨_, rfl, ?_⟩
  (refine s_mv ?_)
  refine s_call x_call (rotr_calls _ 61 _ (by omega)) ?_
  rintro _ w3 ⟨rfl, k3⟩
  refine ⟨_, rfl, ?_⟩
  (refine s_xw ?_; refine s_mv ?_; refine s_hr ?_; refine s_xw ?_; refine s_as ?_; refine AtR_nil (At_seq (At_region ?_)); refine s_mv ?_)
  refine s_call x_call (rotr_calls _ 1 _ (by omega)) ?_
  rintro _ w4 ⟨rfl, k4⟩
  refine ⟨_, rfl, ?_⟩
  (refine s_mv ?_)
  refine s_call x_call (rotr_calls _ 8 _ (by omega)) ?_
  rintro _ w5 ⟨rfl, k5⟩
  refine ⟨_, rfl, ?_⟩
  (refine s_xw ?_; refine s_mv ?_; refine s_hr ?_; refine s_xw ?_; refine s_as ?_; refine AtR_nil ?_)
  have K5 : Kp No w1 w5.drew := ((((kd.trans k2).trans k3).trans k4).trans k5).trans Kp.drew
  have ho5 := ho.kp K5 (fun _ _ => id)
  have hs5 : Seg w5.drew bW oW (ints .u64 (ws (sch l i))) := hsW.kp K5 id hbW
  have K6 := K.trans K5
  clear hS kd k2 k3 k4 k5 ho hsW hos
  have hv : small ((sch l i).getD (((16 + i : Nat) : Int) - 2).toNat 0) 19 61 6 + (sch l i).getD (((16 + i : Nat) : Int) - 7).toNat 0 + small ((sch l i).getD (((16 + i : Nat) : Int) - 15).toNat 0) 1 8 7 + (sch l i).getD (((16 + i : Nat) : Int) - 16).toNat 0 = schV (sch l i) (16 + i) := by
   rw [show (((16 + i : Nat) : Int) - 2).toNat = 16 + i - 2 by omega, show (((16 + i : Nat) : Int) - 7).toNat = 16 + i - 7 by omega, show (((16 + i : Nat) : Int) - 15).toNat = 16 + i - 15 by omega, show (((16 + i : Nat) : Int) - 16).toNat = 16 + i - 16 by omega]; rfl
  refine At_draw (fun _ => True) rfl ?_
  have hS : True := trivial
  (apply AtH_take 0 rfl (by decide +kernel) (by exact rfl); (focus (intro wx hx; skip; exact x_move (by conv => lhs; whnf))); (focus (exact hS)))
  (apply AtH_take 1 rfl (by decide +kernel) (by exact rfl); (focus (intro wx hx; skip; exact x_move (by conv => lhs; whnf))); (focus (exact hS)))
  (apply AtH_take 2 rfl (by decide +kernel) (by exact rfl); (focus (intro wx hx; skip; exact x_move (by conv => lhs; whnf))); (focus (exact hS)))
  (apply AtH_take 3 rfl (by decide +kernel) (by exact rfl); (focus (intro wx hx; skip; exact x_move (by conv => lhs; whnf))); (focus (exact hS)))
  (apply AtH_take 4 rfl (by decide +kernel) (by exact rfl); (focus (intro wx hx; skip; exact x_sub64 rfl rfl (by omega) (by omega))); (focus (exact hS)))
  (apply AtH_take 5 rfl (by decide +kernel) (by exact rfl); (focus (intro wx hx; skip; exact x_indexAddr1 rfl rfl (by omega) (by omega))); (focus (exact hS)))
  (apply AtH_take 8 rfl (by decide +kernel) (by exact rfl); (focus (intro wx hx; skip; exact x_move (by conv => lhs; whnf))); (focus (exact hS)))
  (apply AtH_take 10 rfl (by decide +kernel) (by exact rfl); (focus (intro wx hx; skip; exact x_move (by conv => lhs; whnf))); (focus (exact hS)))
  (apply AtH_take 11 rfl (by decide +kernel) (by exact rfl); (focus (intro wx hx; skip; exact x_move (by conv => lhs; whnf))); (focus (exact hS)))
  (apply AtH_take 12 rfl (by decide +kernel) (by exact rfl); (focus (intro wx hx; skip; exact x_sub64 rfl rfl (by omega) (by omega))); (focus (exact hS)))
  (apply AtH_take 13 rfl (by decide +kernel) (by exact rfl); (focus (intro wx hx; skip; exact x_indexAddr1 rfl rfl (by omega) (by omega))); (focus (exact hS)))
  refine AtH_pair 6 14 rfl rfl (by decide +kernel) rfl rfl ⟨_, _, x_load_sw rfl hs5 (by omega), trivial, ?_⟩ ⟨_, _, x_load_sw rfl hs5 (by omega), trivial, ?_⟩
  ·
   (apply AtH_take 7 rfl (by decide +kernel) (by exact rfl); (focus (intro wx hx; skip; exact x_addW rfl rfl)); (focus (exact hS)))
   (apply AtH_take 9 rfl (by decide +kernel) (by exact rfl); (focus (intro wx hx; skip; exact x_addW rfl rfl)); (focus (exact hS)))
   refine AtH_val 14 rfl (by decide +kernel) rfl (x_load_sw rfl hs5 (by omega)) hS ?_
   (apply AtH_take 15 rfl (by decide +kernel) (by exact rfl); (focus (intro wx hx; skip; exact x_addW rfl rfl)); (focus (exact hS)))
   refine H_val 16 rfl (by decide +kernel) rfl (r_buildSlice1 (os := [_]) rfl rfl (by omega) rfl rfl rfl) ?_
   rintro _ w6 ⟨b6, rfl, hb6, e6⟩
   refine ⟨trivial, ?_⟩
   have B6 : Blk w6 b6 193 (0, 0) (ints .u64 (ws [schV (sch l i) (16 + i)])) := by rw [← hv]; exact e6.blk
   have ho6 := ho5.kp (e6.kp (S := No) (.inr (by omega))) (fun _ _ => id)
   have K7 := K6.trans (e6.kp (.inr (by omega)))
   have hz7 := K7.size
   refine H_val 17 rfl (by decide +kernel) rfl (r_append rfl rfl ho6 ((B6.sl (m := 1) rfl (by omega)).src (T := 222) rfl) rfl (by omega) (by simp only [maxLen]; omega) (by omega)) ?_
   rintro _ w7 ⟨a7, cap7, rfl, ho7, k7, hfr7⟩
   refine ⟨trivial, ?_⟩
   (apply AtH_take 18 rfl (by decide +kernel) (by exact rfl); (focus (intro wx hx; skip; exact x_assign (by conv => lhs; whnf))); (focus (exact hS)))
   refine AtH_done (by decide +kernel) ?_
   (refine At_inBlock (At_region ?_); refine s_mv ?_; refine s_ad ?_; refine s_as ?_; refine AtR_nil ?_)
   refine again (i + 1, (a7, cap7)) _ _ ⟨rfl, rfl, ?_, trivial⟩ ⟨h64, own_eq ho7 ?_ rfl, ?_, K7.trans' k7 (fun j hj => .inr (hf j hj))⟩ (by simp only; omega)
   ·show Value.int .i64 (((16 + i : Nat) : Int) + 1) = .int .i64 ((16 + (i + 1) : Nat) : Int)
    congr 1
   ·rw [sch, ws_app]; simp [ints]
   ·rcases hfr7 with rfl | ⟨b', rfl, hb'⟩
    ·exact hf
    ·intro j hj; simp [blkOf] at hj; omega
  ·
   refine AtH_val 6 rfl (by decide +kernel) rfl (x_load_sw rfl hs5 (by omega)) hS ?_
   (apply AtH_take 7 rfl (by decide +kernel) (by exact rfl); (focus (intro wx hx; skip; exact x_addW rfl rfl)); (focus (exact hS)))
   (apply AtH_take 9 rfl (by decide +kernel) (by exact rfl); (focus (intro wx hx; skip; exact x_addW rfl rfl)); (focus (exact hS)))
   (apply AtH_take 15 rfl (by decide +kernel) (by exact rfl); (focus (intro wx hx; skip; exact x_addW rfl rfl)); (focus (exact hS)))
   refine H_val 16 rfl (by decide +kernel) rfl (r_buildSlice1 (os := [_]) rfl rfl (by omega) rfl rfl rfl) ?_
   rintro _ w6 ⟨b6, rfl, hb6, e6⟩
   refine ⟨trivial, ?_⟩
   have B6 : Blk w6 b6 193 (0, 0) (ints .u64 (ws [schV (sch l i) (16 + i)])) := by rw [← hv]; exact e6.blk
   have ho6 := ho5.kp (e6.kp (S := No) (.inr (by omega))) (fun _ _ => id)
   have K7 := K6.trans (e6.kp (.inr (by omega)))
   have hz7 := K7.size
   refine H_val 17 rfl (by decide +kernel) rfl (r_append rfl rfl ho6 ((B6.sl (m := 1) rfl (by omega)).src (T := 222) rfl) rfl (by omega) (by simp only [maxLen]; omega) (by omega)) ?_
   rintro _ w7 ⟨a7, cap7, rfl, ho7, k7, hfr7⟩
   refine ⟨trivial, ?_⟩
   (apply AtH_take 18 rfl (by decide +kernel) (by exact rfl); (focus (intro wx hx; skip; exact x_assign (by conv => lhs; whnf))); (focus (exact hS)))
   refine AtH_done (by decide +kernel) ?_
   (refine At_inBlock (At_region ?_); refine s_mv ?_; refine s_ad ?_; refine s_as ?_; refine AtR_nil ?_)
   refine again (i + 1, (a7, cap7)) _ _ ⟨rfl, rfl, ?_, trivial⟩ ⟨h64, own_eq ho7 ?_ rfl, ?_, K7.trans' k7 (fun j hj => .inr (hf j hj))⟩ (by simp only; omega)
   ·show Value.int .i64 (((16 + i : Nat) : Int) + 1) = .int .i64 ((16 + (i + 1) : Nat) : Int)
    congr 1
   ·rw [sch, ws_app]; simp [ints]
   ·rcases hfr7 with rfl | ⟨b', rfl, hb'⟩
    ·exact hf
    ·intro j hj; simp [blkOf] at hj; omega
 have hie : i = 64 := by omega
 subst hie
 clear again
 obtain ⟨Q, hQ⟩ : ∃ Q, Q = sch l 64 := ⟨_, rfl⟩
 rw [← hQ] at hsW hsl
 clear ho hos
 have kd := Kp.drew (S := No) (w := w1)
 have hsH : Seg w1 bh oh (ints .u64 (ws H)) := hsh.kp K id hlth
 have hzK := K.size
 (refine At_seq (At_seq (At_region ?_)); refine s_mv ?_; refine s_lss ?_; refine AtR_nil ?_; refine At_cond_f rfl ?_; refine At_exit rfl ?_; refine At_seq ?_)
 refine At_draw (fun w' => Seg w' bh oh (ints .u64 (ws H))) rfl ?_
 have hS : Seg w1.drew bh oh (ints .u64 (ws H)) := hsH
 (apply AtH_take 0 rfl (by decide +kernel) (by exact rfl); (focus (intro wx hx; skip; exact x_move (by conv => lhs; whnf))); (focus (exact hS)))
 (apply AtH_take 1 rfl (by decide +kernel) (by exact rfl); (focus (intro wx hx; skip; exact x_indexAddr1 rfl rfl (by omega) (by omega))); (focus (exact hS)))
 (apply AtH_take 2 rfl (by decide +kernel) (by exact rfl); (focus (intro wx hx; skip; exact x_load_sw rfl (by assumption) (by omega))); (focus (exact hS)))
 (apply AtH_take 3 rfl (by decide +kernel) (by exact rfl); (focus (intro wx hx; skip; exact x_move (by conv => lhs; whnf))); (focus (exact hS)))
 (apply AtH_take 4 rfl (by decide +kernel) (by exact rfl); (focus (intro wx hx; skip; exact x_indexAddr1 rfl rfl (by omega) (by omega))); (focus (exact hS)))
 (apply AtH_take 5 rfl (by decide +kernel) (by exact rfl); (focus (intro wx hx; skip; exact x_load_sw rfl (by assumption) (by omega))); (focus (exact hS)))
 (apply AtH_take 6 rfl (by decide +kernel) (by exact rfl); (focus (intro wx hx; skip; exact x_move (by conv => lhs; whnf))); (focus (exact hS)))
 (apply AtH_take 7 rfl (by decide +kernel) (by exact rfl); (focus (intro wx hx; skip; exact x_indexAddr1 rfl rfl (by omega) (by omega))); (focus (exact hS)))
 (apply AtH_take 8 rfl (by decide +kernel) (by exact rfl); (focus (intro wx hx; skip; exact x_load_sw rfl (by assumption) (by omega))); (focus (exact hS)))
 (apply AtH_take 9 rfl (by decide +kernel) (by exact rfl); (focus (intro wx hx; skip; exact x_move (by conv => lhs; whnf))); (focus (exact hS)))
 (apply AtH_take 10 rfl (by decide +kernel) (by exact rfl); (focus (intro wx hx; skip; exact x_indexAddr1 rfl rfl (by omega) (by omega))); (focus (exact hS)))
 (apply AtH_take 11 rfl (by decide +kernel) (by exact rfl); (focus (intro wx hx; skip; exact x_load_sw rfl (by assumption) (by omega))); (focus (exact hS)))
 (apply AtH_take 12 rfl (by decide +kernel) (by exact rfl); (focus (intro wx hx; skip; exact x_move (by conv => lhs; whnf))); (focus (exact hS)))
 (apply AtH_take 13 rfl (by decide +kernel) (by exact rfl); (focus (intro wx hx; skip; exact x_indexAddr1 rfl rfl (by omega) (by omega))); (focus (exact hS)))
 (apply AtH_take 14 rfl (by decide +kernel) (by exact rfl); (focus (intro wx hx; skip; exact x_load_sw rfl (by assumption) (by omega))); (focus (exact hS)))
 (apply AtH_take 15 rfl (by decide +kernel) (by exact rfl); (focus (intro wx hx; skip; exact x_move (by conv => lhs; whnf))); (focus (exact hS)))
 (apply AtH_take 16 rfl (by decide +kernel) (by exact rfl); (focus (intro wx hx; skip; exact x_indexAddr1 rfl rfl (by omega) (by omega))); (focus (exact hS)))
 (apply AtH_take 17 rfl (by decide +kernel) (by exact rfl); (focus (intro wx hx; skip; exact x_load_sw rfl (by assumption) (by omega))); (focus (exact hS)))
 (apply AtH_take 18 rfl (by decide +kernel) (by exact rfl); (focus (intro wx hx; skip; exact x_move (by conv => lhs; whnf))); (focus (exact hS)))
 (apply AtH_take 19 rfl (by decide +kernel) (by exact rfl); (focus (intro wx hx; skip; exact x_indexAddr1 rfl rfl (by omega) (by omega))); (focus (exact hS)))
 (apply AtH_take 20 rfl (by decide +kernel) (by exact rfl); (focus (intro wx hx; skip; exact x_load_sw rfl (by assumption) (by omega))); (focus (exact hS)))
 (apply AtH_take 21 rfl (by decide +kernel) (by exact rfl); (focus (intro wx hx; skip; exact x_move (by conv => lhs; whnf))); (focus (exact hS)))
 (apply AtH_take 22 rfl (by decide +kernel) (by exact rfl); (focus (intro wx hx; skip; exact x_indexAddr1 rfl rfl (by omega) (by omega))); (focus (exact hS)))
 (apply AtH_take 23 rfl (by decide +kernel) (by exact rfl); (focus (intro wx hx; skip; exact x_load_sw rfl (by assumption) (by omega))); (focus (exact hS)))
 (apply AtH_take 24 rfl (by decide +kernel) (by exact rfl); (focus (intro wx hx; skip; exact x_assign (by conv => lhs; whnf))); (focus (exact hS)))
 (apply AtH_take 25 rfl (by decide +kernel) (by exact rfl); (focus (intro wx hx; skip; exact x_assign (by conv => lhs; whnf))); (focus (exact hS)))
 (apply AtH_take 26 rfl (by decide +kernel) (by exact rfl); (focus (intro wx hx; skip; exact x_assign (by conv => lhs; whnf))); (focus (exact hS)))
 (apply AtH_take 27 rfl (by decide +kernel) (by exact rfl); (focus (intro wx hx; skip; exact x_assign (by conv => lhs; whnf))); (focus (exact hS)))
 (apply AtH_take 28 rfl (by decide +kernel) (by exact rfl); (focus (intro wx hx; skip; exact x_assign (by conv => lhs; whnf))); (focus (exact hS)))
 (apply AtH_take 29 rfl (by decide +kernel) (by exact rfl); (focus (intro wx hx; skip; exact x_assign (by conv => lhs; whnf))); (focus (exact hS)))
 (apply AtH_take 30 rfl (by decide +kernel) (by exact rfl); (focus (intro wx hx; skip; exact x_assign (by conv => lhs; whnf))); (focus (exact hS)))
 (apply AtH_take 31 rfl (by decide +kernel) (by exact rfl); (focus (intro wx hx; skip; exact x_assign (by conv => lhs; whnf))); (focus (exact hS)))
 refine AtH_done (by decide +kernel) ?_
 (refine At_seq (At_region ?_))
 refine s_call x_call (k_calls _) ?_
 rintro _ w2 ⟨bk, rfl, hsk, hlk, hbk, k2⟩
 refine ⟨_, rfl, ?_⟩
 have K2 := (K.trans kd).trans k2
 have hs2 : Seg w2 bW oW (ints .u64 (ws Q)) := (Seg.kp (w := w1.drew) hsW k2 id hbW)
 have hlW : bW < w2.heap.size := Nat.lt_of_lt_of_le hbW (Nat.le_trans kd.size k2.size)
 have hk80 := kSha_length
 clear hS hsH hsW kd k2 K hbW hbk hzK
 (refine s_as ?_; refine AtR_nil (At_seq (At_seq (At_region ?_))); refine s_as ?_; refine AtR_nil (At_block ?_))
 refine At_while (fun t : Nat => [(0, .slice (some ⟨bh, oh, none⟩) 8 caph), (5, .slice (some ⟨bW, oW, none⟩) 80 cap1), (14, .int .u64 (uw ((iter H l t).1.getD 0 0))), (15, .int .u64 (uw ((iter H l t).1.getD 1 0))), (16, .int .u64 (uw ((iter H l t).1.getD 2 0))), (17, .int .u64 (uw ((iter H l t).1.getD 3 0))), (18, .int .u64 (uw ((iter H l t).1.getD 4 0))), (19, .int .u64 (uw ((iter H l t).1.getD 5 0))), (20, .int .u64 (uw ((iter H l t).1.getD 6 0))), (21, .int .u64 (uw ((iter H l t).1.getD 7 0))), (22, .slice (some ⟨bk, 0, none⟩) 80 80), (23, .int .i64 (t : Int))])
  (fun t w' => t ≤ 80 ∧ Kp No w2 w') (fun t => 80 - t) 0 ⟨rfl, rfl, rfl, rfl, rfl, rfl, rfl, rfl, rfl, rfl, rfl, rfl, trivial⟩ ⟨by omega, Kp.refl _ _⟩ ?_
 rintro t w3 junk2 ⟨ht, K3⟩ again
 obtain ⟨h8, h16⟩ := iter_length (h := H) (l := l) hH t
 have hws := fun h => word_sch H l hH t h
 rw [← hQ] at hws
 have hit1 : iter H l (t + 1) = (rnd (kSha.getD t 0) ((nextC (iter H l t).2 t).getD (t % 16) 0) (iter H l t).1, nextC (iter H l t).2 t) := rfl
 have htb : t = 80 → takeB H l = List.zipWith (· + ·) H (iter H l t).1 := fun e => by rw [e]; rfl
 generalize hit : iter H l t = st at h8 h16 hws hit1 htb
 obtain ⟨X, c⟩ := st
 simp only at h8 h16 hws hit1 htb
 obtain ⟨xa, xb, xc, xd, xe, xf, xg, xh, rfl⟩ := eight h8
 have hsk3 := hsk.kp K3 id hlk
 have hsW3 := hs2.kp K3 id hlW
 by_cases hlt80 : t < 80
 ·rw [hws hlt80] at hit1
  have kd := Kp.drew (S := No) (w := w3)
  (refine At_seq (At_seq (At_region ?_)); refine s_mv ?_; refine s_lss ?_; refine AtR_nil ?_; refine At_cond_t rfl ?_; refine At_skip (At_seq (At_block ?_)); refine At_seq ?_)
  refine At_draw (fun w' => Seg w' bk 0 (ints .u64 (ws kSha)) ∧ Seg w' bW oW (ints .u64 (ws Q))) rfl ?_
  have hS : Seg w3.drew bk 0 (ints .u64 (ws kSha)) ∧ Seg w3.drew bW oW (ints .u64 (ws Q)) := ⟨hsk3, hsW3⟩
  have hbk3 : bk < w3.drew.heap.size := Nat.lt_of_lt_of_le hlk (Nat.le_trans K3.size kd.size)
  have hbW3 : bW < w3.drew.heap.size := Nat.lt_of_lt_of_le hlW (Nat.le_trans K3.size kd.size)
  (apply AtH_take 0 rfl (by decide +kernel) (by exact rfl); (focus (intro wx hx; obtain ⟨h1,h2⟩ := hx; exact x_move (by conv => lhs; whnf))); (focus (exact hS)))
  (apply AtH_take 1 rfl (by decide +kernel) (by exact rfl); (focus (intro wx hx; obtain ⟨h1,h2⟩ := hx; exact x_move (by conv => lhs; whnf))); (focus (exact hS)))
  (apply AtH_take 3 rfl (by decide +kernel) (by exact rfl); (focus (intro wx hx; obtain ⟨h1,h2⟩ := hx; exact x_move (by conv => lhs; whnf))); (focus (exact hS)))
  (apply AtH_take 6 rfl (by decide +kernel) (by exact rfl); (focus (intro wx hx; obtain ⟨h1,h2⟩ := hx; exact x_move (by conv => lhs; whnf))); (focus (exact hS)))
  (apply AtH_take 10 rfl (by decide +kernel) (by exact rfl); (focus (intro wx hx; obtain ⟨h1,h2⟩ := hx; exact x_move (by conv => lhs; whnf))); (focus (exact hS)))
  (apply AtH_take 11 rfl (by decide +kernel) (by exact rfl); (focus (intro wx hx; obtain ⟨h1,h2⟩ := hx; exact x_move (by conv => lhs; whnf))); (focus (exact hS)))
  (apply AtH_take 12 rfl (by decide +kernel) (by exact rfl); (focus (intro wx hx; obtain ⟨h1,h2⟩ := hx; exact x_andW rfl rfl)); (focus (exact hS)))
  (apply AtH_take 13 rfl (by decide +kernel) (by exact rfl); (focus (intro wx hx; obtain ⟨h1,h2⟩ := hx; exact x_move (by conv => lhs; whnf))); (focus (exact hS)))
  (apply AtH_take 14 rfl (by decide +kernel) (by exact rfl); (focus (intro wx hx; obtain ⟨h1,h2⟩ := hx; exact x_notW rfl)); (focus (exact hS)))
  (apply AtH_take 15 rfl (by decide +kernel) (by exact rfl); (focus (intro wx hx; obtain ⟨h1,h2⟩ := hx; exact x_move (by conv => lhs; whnf))); (focus (exact hS)))
  (apply AtH_take 16 rfl (by decide +kernel) (by exact rfl); (focus (intro wx hx; obtain ⟨h1,h2⟩ := hx; exact x_andW rfl rfl)); (focus (exact hS)))
  (apply AtH_take 17 rfl (by decide +kernel) (by exact rfl); (focus (intro wx hx; obtain ⟨h1,h2⟩ := hx; exact x_xorW rfl rfl)); (focus (exact hS)))
  (apply AtH_take 19 rfl (by decide +kernel) (by exact rfl); (focus (intro wx hx; obtain ⟨h1,h2⟩ := hx; exact x_move (by conv => lhs; whnf))); (focus (exact hS)))
  (apply AtH_take 20 rfl (by decide +kernel) (by exact rfl); (focus (intro wx hx; obtain ⟨h1,h2⟩ := hx; exact x_move (by conv => lhs; whnf))); (focus (exact hS)))
  (apply AtH_take 21 rfl (by decide +kernel) (by exact rfl); (focus (intro wx hx; obtain ⟨h1,h2⟩ := hx; exact x_indexAddrN1 rfl rfl (by omega))); (focus (exact hS)))
  (apply AtH_take 24 rfl (by decide +kernel) (by exact rfl); (focus (intro wx hx; obtain ⟨h1,h2⟩ := hx; exact x_move (by conv => lhs; whnf))); (focus (exact hS)))
  (apply AtH_take 25 rfl (by decide +kernel) (by exact rfl); (focus (intro wx hx; obtain ⟨h1,h2⟩ := hx; exact x_move (by conv => lhs; whnf))); (focus (exact hS)))
  (apply AtH_take 26 rfl (by decide +kernel) (by exact rfl); (focus (intro wx hx; obtain ⟨h1,h2⟩ := hx; exact x_indexAddrN1 rfl rfl (by omega))); (focus (exact hS)))
  refine AtH_take 22 rfl (by decide +kernel) rfl (fun wx hx => x_load_sw rfl hx.1 (by omega)) hS ?_
  refine AtH_take 27 rfl (by decide +kernel) rfl (fun wx hx => x_load_sw rfl hx.2 (by omega)) hS ?_
  refine AtH_call 2 rfl (by decide +kernel) (by exact rfl) x_call  (rotr_calls xe 14 _ (by omega)) ?_
  rintro _ w4 ⟨rfl, k4⟩
  replace hS : Seg w4 bk 0 (ints .u64 (ws kSha)) ∧ Seg w4 bW oW (ints .u64 (ws Q)) := ⟨hS.1.kp k4 id hbk3, hS.2.kp k4 id hbW3⟩
  refine ⟨_, rfl, hS, ?_⟩
  have z4 := k4.size
  refine AtH_call 4 rfl (by decide +kernel) (by exact rfl) x_call  (rotr_calls xe 18 _ (by omega)) ?_
  rintro _ w5 ⟨rfl, k5⟩
  replace hS : Seg w5 bk 0 (ints .u64 (ws kSha)) ∧ Seg w5 bW oW (ints .u64 (ws Q)) := ⟨hS.1.kp k5 id (by omega), hS.2.kp k5 id (by omega)⟩
  refine ⟨_, rfl, hS, ?_⟩
  have z5 := k5.size
  (apply AtH_take 5 rfl (by decide +kernel) (by exact rfl); (focus (intro wx hx; obtain ⟨h1,h2⟩ := hx; exact x_xorW rfl rfl)); (focus (exact hS)))
  refine AtH_call 7 rfl (by decide +kernel) (by exact rfl) x_call  (rotr_calls xe 41 _ (by omega)) ?_
  rintro _ w6 ⟨rfl, k6⟩
  replace hS : Seg w6 bk 0 (ints .u64 (ws kSha)) ∧ Seg w6 bW oW (ints .u64 (ws Q)) := ⟨hS.1.kp k6 id (by omega), hS.2.kp k6 id (by omega)⟩
  refine ⟨_, rfl, hS, ?_⟩
  (apply AtH_take 8 rfl (by decide +kernel) (by exact rfl); (focus (intro wx hx; obtain ⟨h1,h2⟩ := hx; exact x_xorW rfl rfl)); (focus (exact hS)))
  (apply AtH_take 9 rfl (by decide +kernel) (by exact rfl); (focus (intro wx hx; obtain ⟨h1,h2⟩ := hx; exact x_addW rfl rfl)); (focus (exact hS)))
  (apply AtH_take 18 rfl (by decide +kernel) (by exact rfl); (focus (intro wx hx; obtain ⟨h1,h2⟩ := hx; exact x_addW rfl rfl)); (focus (exact hS)))
  (apply AtH_take 23 rfl (by decide +kernel) (by exact rfl); (focus (intro wx hx; obtain ⟨h1,h2⟩ := hx; exact x_addW rfl rfl)); (focus (exact hS)))
  (apply AtH_take 28 rfl (by decide +kernel) (by exact rfl); (focus (intro wx hx; obtain ⟨h1,h2⟩ := hx; exact x_addW rfl rfl)); (focus (exact hS)))
  (apply AtH_take 29 rfl (by decide +kernel) (by exact rfl); (focus (intro wx hx; obtain ⟨h1,h2⟩ := hx; exact x_assign (by conv => lhs; whnf))); (focus (exact hS)))
  refine AtH_done (by decide +kernel) ?_
  (refine At_seq (At_region ?_); refine s_mv ?_)
  refine s_call x_call (rotr_calls xa 28 _ (by omega)) ?_
  rintro _ w7 ⟨rfl, k7⟩
  refine ⟨_, rfl, ?_⟩
  (refine s_mv ?_)
  refine s_call x_call (rotr_calls xa 34 _ (by omega)) ?_
  rintro _ w8 ⟨rfl, k8⟩
  refine ⟨_, rfl, ?_⟩
  (refine s_xw ?_; refine s_mv ?_)
  refine s_call x_call (rotr_calls xa 39 _ (by omega)) ?_
  rintro _ w9 ⟨rfl, k9⟩
  refine ⟨_, rfl, ?_⟩
  (refine s_xw ?_; refine s_mv ?_; refine s_mv ?_; refine s_aw ?_; refine s_mv ?_; refine s_mv ?_; refine s_aw ?_; refine s_xw ?_; refine s_mv ?_; refine s_mv ?_; refine s_aw ?_; refine s_xw ?_; refine s_dw ?_; refine s_as ?_; refine AtR_nil (At_region ?_); refine s_mv ?_; refine s_mv ?_; refine s_mv ?_; refine s_mv ?_; refine s_mv ?_; refine s_dw ?_; refine s_mv ?_; refine s_mv ?_; refine s_mv ?_; refine s_mv ?_; refine s_mv ?_; refine s_dw ?_; refine s_as ?_; refine s_as ?_; refine s_as ?_; refine s_as ?_; refine s_as ?_; refine s_as ?_; refine s_as ?_; refine s_as ?_; refine AtR_nil (At_inBlock (At_region ?_)); refine s_mv ?_; refine s_ad ?_; refine s_as ?_; refine AtR_nil ?_)
  have K9 := ((((((K3.trans kd).trans k4).trans k5).trans k6).trans k7).trans k8).trans k9
  have hX : (iter H l (t + 1)).1 = [(xh + (rot xe 14 ^^^ rot xe 18 ^^^ rot xe 41) + ((xe &&& xf) ^^^ (~~~xe &&& xg)) + kSha.getD t 0 + Q.getD t 0) + ((rot xa 28 ^^^ rot xa 34 ^^^ rot xa 39) + ((xa &&& xb) ^^^ (xa &&& xc) ^^^ (xb &&& xc))),
    xa, xb, xc, xd + (xh + (rot xe 14 ^^^ rot xe 18 ^^^ rot xe 41) + ((xe &&& xf) ^^^ (~~~xe &&& xg)) + kSha.getD t 0 + Q.getD t 0), xe, xf, xg] := by
   rw [hit1, ch_eq, maj_eq]; rfl
  refine again (t + 1) _ _ ?_ ⟨hlt80, K9⟩ (by omega)
  rw [hX]
  exact ⟨rfl, rfl, rfl, rfl, rfl, rfl, rfl, rfl, rfl, rfl, rfl, rfl, trivial⟩
 have ht80 : t = 80 := by omega
 replace htb := htb ht80
 clear again hit hit1 hws
 have kd := Kp.drew (S := No) (w := w3)
 have hsH3 : Seg w3 bh oh (ints .u64 (ws H)) := (hsh.kp K2 id hlth).kp K3 id (Nat.lt_of_lt_of_le hlth K2.size)
 have hsH : Seg w3.drew bh oh (ints .u64 (ws H)) := hsH3
 (refine At_seq (At_seq (At_region ?_)); refine s_mv ?_; refine s_lss ?_; refine AtR_nil ?_; refine At_cond_f rfl ?_; refine At_exit rfl ?_; refine At_seq ?_)
 refine At_draw (fun w' => Seg w' bh oh (ints .u64 (ws H))) rfl ?_
 have hS : Seg w3.drew bh oh (ints .u64 (ws H)) := hsH
 have hz3 := K3.size
 have hz2 := K2.size
 have hzd := kd.size
 (apply AtH_take 0 rfl (by decide +kernel) (by exact rfl); (focus (intro wx hx; skip; exact x_move (by conv => lhs; whnf))); (focus (exact hS)))
 (apply AtH_take 1 rfl (by decide +kernel) (by exact rfl); (focus (intro wx hx; skip; exact x_indexAddr1 rfl rfl (by omega) (by omega))); (focus (exact hS)))
 (apply AtH_take 2 rfl (by decide +kernel) (by exact rfl); (focus (intro wx hx; skip; exact x_load_sw rfl (by assumption) (by omega))); (focus (exact hS)))
 (apply AtH_take 3 rfl (by decide +kernel) (by exact rfl); (focus (intro wx hx; skip; exact x_move (by conv => lhs; whnf))); (focus (exact hS)))
 (apply AtH_take 4 rfl (by decide +kernel) (by exact rfl); (focus (intro wx hx; skip; exact x_addW rfl rfl)); (focus (exact hS)))
 (apply AtH_take 5 rfl (by decide +kernel) (by exact rfl); (focus (intro wx hx; skip; exact x_move (by conv => lhs; whnf))); (focus (exact hS)))
 (apply AtH_take 6 rfl (by decide +kernel) (by exact rfl); (focus (intro wx hx; skip; exact x_indexAddr1 rfl rfl (by omega) (by omega))); (focus (exact hS)))
 (apply AtH_take 7 rfl (by decide +kernel) (by exact rfl); (focus (intro wx hx; skip; exact x_load_sw rfl (by assumption) (by omega))); (focus (exact hS)))
 (apply AtH_take 8 rfl (by decide +kernel) (by exact rfl); (focus (intro wx hx; skip; exact x_move (by conv => lhs; whnf))); (focus (exact hS)))
 (apply AtH_take 9 rfl (by decide +kernel) (by exact rfl); (focus (intro wx hx; skip; exact x_addW rfl rfl)); (focus (exact hS)))
 (apply AtH_take 10 rfl (by decide +kernel) (by exact rfl); (focus (intro wx hx; skip; exact x_move (by conv => lhs; whnf))); (focus (exact hS)))
 (apply AtH_take 11 rfl (by decide +kernel) (by exact rfl); (focus (intro wx hx; skip; exact x_indexAddr1 rfl rfl (by omega) (by omega))); (focus (exact hS)))
 (apply AtH_take 12 rfl (by decide +kernel) (by exact rfl); (focus (intro wx hx; skip; exact x_load_sw rfl (by assumption) (by omega))); (focus (exact hS)))
 (apply AtH_take 13 rfl (by decide +kernel) (by exact rfl); (focus (intro wx hx; skip; exact x_move (by conv => lhs; whnf))); (focus (exact hS)))
 (apply AtH_take 14 rfl (by decide +kernel) (by exact rfl); (focus (intro wx hx; skip; exact x_addW rfl rfl)); (focus (exact hS)))
 (apply AtH_take 15 rfl (by decide +kernel) (by exact rfl); (focus (intro wx hx; skip; exact x_move (by conv => lhs; whnf))); (focus (exact hS)))
 (apply AtH_take 16 rfl (by decide +kernel) (by exact rfl); (focus (intro wx hx; skip; exact x_indexAddr1 rfl rfl (by omega) (by omega))); (focus (exact hS)))
 (apply AtH_take 17 rfl (by decide +kernel) (by exact rfl); (focus (intro wx hx; skip; exact x_load_sw rfl (by assumption) (by omega))); (focus (exact hS)))
 (apply AtH_take 18 rfl (by decide +kernel) (by exact rfl); (focus (intro wx hx; skip; exact x_move (by conv => lhs; whnf))); (focus (exact hS)))
 (apply AtH_take 19 rfl (by decide +kernel) (by exact rfl); (focus (intro wx hx; skip; exact x_addW rfl rfl)); (focus (exact hS)))
 (apply AtH_take 20 rfl (by decide +kernel) (by exact rfl); (focus (intro wx hx; skip; exact x_move (by conv => lhs; whnf))); (focus (exact hS)))
 (apply AtH_take 21 rfl (by decide +kernel) (by exact rfl); (focus (intro wx hx; skip; exact x_indexAddr1 rfl rfl (by omega) (by omega))); (focus (exact hS)))
 (apply AtH_take 22 rfl (by decide +kernel) (by exact rfl); (focus (intro wx hx; skip; exact x_load_sw rfl (by assumption) (by omega))); (focus (exact hS)))
 (apply AtH_take 23 rfl (by decide +kernel) (by exact rfl); (focus (intro wx hx; skip; exact x_move (by conv => lhs; whnf))); (focus (exact hS)))
 (apply AtH_take 24 rfl (by decide +kernel) (by exact rfl); (focus (intro wx hx; skip; exact x_addW rfl rfl)); (focus (exact hS)))
 (apply AtH_take 25 rfl (by decide +kernel) (by exact rfl); (focus (intro wx hx; skip; exact x_move (by conv => lhs; whnf))); (focus (exact hS)))
 (apply AtH_take 26 rfl (by decide +kernel) (by exact rfl); (focus (intro wx hx; skip; exact x_indexAddr1 rfl rfl (by omega) (by omega))); (focus (exact hS)))
 (apply AtH_take 27 rfl (by decide +kernel) (by exact rfl); (focus (intro wx hx; skip; exact x_load_sw rfl (by assumption) (by omega))); (focus (exact hS)))
 (apply AtH_take 28 rfl (by decide +kernel) (by exact rfl); (focus (intro wx hx; skip; exact x_move (by conv => lhs; whnf))); (focus (exact hS)))
 (apply AtH_take 29 rfl (by decide +kernel) (by exact rfl); (focus (intro wx hx; skip; exact x_addW rfl rfl)); (focus (exact hS)))
 (apply AtH_take 30 rfl (by decide +kernel) (by exact rfl); (focus (intro wx hx; skip; exact x_move (by conv => lhs; whnf))); (focus (exact hS)))
 (apply AtH_take 31 rfl (by decide +kernel) (by exact rfl); (focus (intro wx hx; skip; exact x_indexAddr1 rfl rfl (by omega) (by omega))); (focus (exact hS)))
 (apply AtH_take 32 rfl (by decide +kernel) (by exact rfl); (focus (intro wx hx; skip; exact x_load_sw rfl (by assumption) (by omega))); (focus (exact hS)))
 (apply AtH_take 33 rfl (by decide +kernel) (by exact rfl); (focus (intro wx hx; skip; exact x_move (by conv => lhs; whnf))); (focus (exact hS)))
 (apply AtH_take 34 rfl (by decide +kernel) (by exact rfl); (focus (intro wx hx; skip; exact x_addW rfl rfl)); (focus (exact hS)))
 (apply AtH_take 35 rfl (by decide +kernel) (by exact rfl); (focus (intro wx hx; skip; exact x_move (by conv => lhs; whnf))); (focus (exact hS)))
 (apply AtH_take 36 rfl (by decide +kernel) (by exact rfl); (focus (intro wx hx; skip; exact x_indexAddr1 rfl rfl (by omega) (by omega))); (focus (exact hS)))
 (apply AtH_take 37 rfl (by decide +kernel) (by exact rfl); (focus (intro wx hx; skip; exact x_load_sw rfl (by assumption) (by omega))); (focus (exact hS)))
 (apply AtH_take 38 rfl (by decide +kernel) (by exact rfl); (focus (intro wx hx; skip; exact x_move (by conv => lhs; whnf))); (focus (exact hS)))
 (apply AtH_take 39 rfl (by decide +kernel) (by exact rfl); (focus (intro wx hx; skip; exact x_addW rfl rfl)); (focus (exact hS)))
 refine H_val 40 rfl (by decide +kernel) rfl (r_buildSlice1 (os := [_, _, _, _, _, _, _, _]) rfl rfl (by omega) rfl rfl rfl) ?_
 rintro _ w4 ⟨b4, rfl, hb4, e4⟩
 have B4 : Blk w4 b4 193 (0, 0) (ints .u64 (ws (takeB H l))) := by
  rw [htb]
  obtain ⟨ya, yb, yc, yd, ye, yf, yg, yh, rfl⟩ := eight hH
  exact e4.blk
 have hS4 : Seg w4 bh oh (ints .u64 (ws H)) := hS.kp (e4.kp (S := No) (.inr (by omega))) id (by omega)
 refine ⟨hS4, ?_⟩
 have hS := hS4
 (apply AtH_take 41 rfl (by decide +kernel) (by exact rfl); (focus (intro wx hx; skip; exact x_assign (by conv => lhs; whnf))); (focus (exact hS)))
 refine AtH_done (by decide +kernel) ?_
 skip
 refine At_ret1 Tryd.func133 rfl (by conv => lhs; whnf) ?_
 exact ⟨b4, rfl, B4, by omega, ((K2.trans K3).trans kd).trans (e4.kp (.inr (by omega)))⟩
end Go.Proofs.YtfngacepjcdlnaaDoor
namespace Go.Kx
open Go
def strV (l : List UInt8) : Value := .string ⟨l.toArray⟩
theorem app_strs (l m : List UInt8) : (⟨l.toArray⟩ : ByteArray) ++ ⟨m.toArray⟩ = ⟨(l ++ m).toArray⟩ := by
 apply ByteArray.ext
 simp
section
variable {P : Program} {n : Nat} {env : Env} {w : World} {dst : Option Tmp} {ty : TypeId} {pos : String} {aft : Array Edge} {g : Option (Nat × Bool)}
theorem x_conv_bs {S T E : TypeId} {x : Operand} {a : Option Addr} {len cap : Nat} {l : List UInt8} {D : Nat → Prop} [hS : TU P S (.slice E)] [hE : TU P E (.int .u8)] [hT : TU P T .string] (hx : ev n env x = .slice a len cap) (hs : SlE w .u8 a len cap (bs8 l) D) :
  Run P n env ⟨dst, .convert S T x, ty, pos, aft, g⟩ w (.ok (.value (strV l)) w) := by
 have hl := hs.len_eq
 simp only [bs8_length] at hl
 subst hl
 have hr : (convert S T (.slice a l.length cap)).run P w = .ok (.string ⟨l.toArray⟩) w := by
  rcases hs.mem with hc | ⟨b, off, rfl, hlt, _, hseg⟩
  ·have h0 : l.length = 0 := by have := hs.le; omega
   have : l = [] := List.eq_nil_of_length_eq_zero h0
   subst this
   cases a with
   | none => exact run_convert_bytes_nil w S E hS.h hE.h 0 cap T hT.h
   | some a => exact run_convert_bytes_back w S T E a cap [] hS.h hE.h hT.h (fun j hj => by simp at hj)
  ·refine run_convert_bytes_back w S T E ⟨b, off, none⟩ cap l hS.h hE.h hT.h (fun j hj => ?_)
   rw [add_none, hseg j (by simpa using hj)]
   simp [ints, bs8, ub, hj]
 unfold Run
 simp only [execOp, hx, Sem.run_bind, hr, Result.andThen_ok, Sem.run_pure]
 rfl
theorem x_cat {x y : Operand} {T T' : TypeId} {l m : List UInt8} (hx : ev n env x = strV l) (hy : ev n env y = strV m) (h : l.length + m.length ≤ 9223372036854775807) :
  Run P n env ⟨dst, .binOp .add T x y T', ty, pos, aft, g⟩ w (.ok (.value (strV (l ++ m))) w) := by
 have h1 : ¬ (((l.length + m.length : Nat) : Int) > IntKind.i64.max) := by
  show ¬ (((l.length + m.length : Nat) : Int) > 9223372036854775807)
  omega
 have e : (Op.stringOp .add ⟨l.toArray⟩ ⟨m.toArray⟩).run P w = .ok (strV (l ++ m)) w := by
  unfold Op.stringOp
  simp only [ByteArray.size, List.size_toArray]
  rw [if_neg h1, app_strs]; rfl
 unfold Run
 simp only [execOp, hx, hy, strV]
 simp [eqGuard, binOp, e]
 rfl
theorem sl_drop {T E : TypeId} [hT : TU P T (.slice E)] [hs : TSz P E 1] {x lo : Operand} {b off len cap : Nat} {k kl : IntKind} {xs : List Int} {m : Nat} (h : Sl w k (some ⟨b, off, none⟩) len cap xs) (h0 : m ≤ len)
  (hx : ev n env x = .slice (some ⟨b, off, none⟩) len cap) (hh : ev n env lo = .int kl (m : Int)) :
  ∃ off', Run P n env ⟨dst, .slice T x (some lo) none none, ty, pos, aft, g⟩ w (.ok (.value (.slice (some ⟨b, off', none⟩) (len - m) (cap - m))) w) ∧ Sl w k (some ⟨b, off', none⟩) (len - m) (cap - m) (xs.drop m) := by
 have hl := h.len_eq
 have hc := h.le
 have hm := h.max
 rcases h.mem with ⟨h1, _⟩ | ⟨b', o', h1, hlt, hseg⟩
 ·cases h1
 cases h1
 by_cases hcap : m < cap
 ·refine ⟨off + m, ?_, by simp; omega, by omega, by omega, .inr ⟨b, off + m, rfl, hlt, fun j hj => ?_⟩⟩
  ·have := x_slice_l (P := P) (w := w) (dst := dst) (ty := ty) (pos := pos) (aft := aft) (g := g) (T := T) hx hh (by omega) (by omega) (by omega)
   simpa using this
  ·simp at hj
   have := hseg (m + j) (by simp; omega)
   rw [show off + m + j = off + (m + j) by omega, this]
   simp [ints]
 ·have hc1 : cap = m := by omega
  have hl1 : len = m := by omega
  subst hc1
  subst hl1
  refine ⟨off, ?_, by simp; omega, by omega, by omega, .inr ⟨b, off, rfl, hlt, fun j hj => ?_⟩⟩
  ·have hb : (Instr.sliceBound (.int kl (len : Int)) len .sliceB).run P w = .ok len w := by
    have := run_sliceBound (P := P) (w := w) kl (len : Int) len .sliceB (by omega) (by omega)
    simpa using this
   unfold Run
   simp [execOp, hx, hh, Instr.sliceAt, Instr.slice, run_underlying hT.h, Instr.sliceBounds, hb, run_sizeOf hs.h]
  ·simp at hj; omega
theorem r_drop {T E : TypeId} [hT : TU P T (.slice E)] [hs : TSz P E 1] {x lo : Operand} {b off len cap : Nat} {k kl : IntKind} {xs : List Int} {m : Nat} (h : Sl w k (some ⟨b, off, none⟩) len cap xs) (h0 : m ≤ len)
  (hx : ev n env x = .slice (some ⟨b, off, none⟩) len cap) (hh : ev n env lo = .int kl (m : Int)) :
  ∃ v w', Run P n env ⟨dst, .slice T x (some lo) none none, ty, pos, aft, g⟩ w (.ok (.value v) w') ∧ ∃ off', v = .slice (some ⟨b, off', none⟩) (len - m) (cap - m) ∧ Sl w k (some ⟨b, off', none⟩) (len - m) (cap - m) (xs.drop m) ∧ w = w' := by
 obtain ⟨off', hr, hl⟩ := sl_drop (P := P) (dst := dst) (ty := ty) (pos := pos) (aft := aft) (g := g) (T := T) h h0 hx hh
 exact ⟨_, _, hr, off', rfl, hl, rfl⟩
end
end Go.Kx
namespace Go.Proofs.YtfngacepjcdlnaaDoor
open Go Go.Kx
def h0Sha : List (BitVec 64) := [7640891576956012808, 13503953896175478587, 4354685564936845355, 11912009170470909681, 5840696475078001361, 11170449401992604703, 2270897969802886507, 6620516959819538809]
def padded (l : List UInt8) : List UInt8 := l ++ fillB l.length
def blocksN (l : List UInt8) : Nat := (padded l).length / 128
def dig (T : List UInt8) : Nat → List (BitVec 64)
 | 0 => h0Sha
 | k + 1 => takeB (dig T k) ((T.drop (128 * k)).take 128)
def outB (H : List (BitVec 64)) : List UInt8 := H.flatMap fun h => hiB h 8
def sha (l : List UInt8) : List UInt8 := outB (dig (padded l) (blocksN l))
theorem padded_length (l : List UInt8) : (padded l).length = 128 * blocksN l := by
 have : (padded l).length = l.length + (17 + gapN l.length) := by rw [padded, List.length_append, fillB_length]
 unfold blocksN
 rw [this]; unfold gapN; omega
theorem dig_length (T : List UInt8) : ∀ k, (dig T k).length = 8
 | 0 => rfl
 | k + 1 => takeB_length (dig_length T k)
theorem outB_snoc {H : List (BitVec 64)} {i : Nat} (h : i < H.length) : outB (H.take (i + 1)) = outB (H.take i) ++ hiB (H.getD i 0) 8 := by
 rw [take_snoc h, outB, List.flatMap_append]; simp [outB]
theorem outB_length (H : List (BitVec 64)) : (outB H).length = 8 * H.length := by
 induction H with
 | nil => rfl
 | cons x xs ih => rw [outB, List.flatMap_cons, List.length_append, hiB_length]; simp only [outB] at ih; rw [ih, List.length_cons]; omega
theorem sha_length (l : List UInt8) : (sha l).length = 64 := by rw [sha, outB_length, dig_length]
set_option maxRecDepth 100000 in
set_option maxHeartbeats 4000000 in
theorem sumR_calls (l : List UInt8) (a : Option Addr) (len cap : Nat) (w : World) {D : Nat → Prop} (hs : SlE w .u8 a len cap (bs8 l) D) (hb : len ≤ 35184372088832) :
  Calls Tryd.prog 121 #[.slice a len cap] w fun e w' => e = .returned (strV (sha l)) ∧ Kp No w w' := by
 have hll := hs.len_eq
 simp only [bs8_length] at hll
 subst hll
 have hgap : gapN l.length ≤ 127 := by unfold gapN; omega
 have hfl := fillB_length l.length
 refine calls_at (n := 46) Tryd.func121 rfl rfl (by simp) ?_
 (refine At_seq (At_region ?_); refine s_as ?_; refine AtR_nil (At_seq ?_); refine At_region ?_)
 refine AtR_go rfl (AtG_buildSlice1 (ops := []) rfl rfl (by omega) rfl rfl rfl fun b1 w1 hb1 e1 => ?_)
 have ho1 := Blk.own (e1.blk : Blk w1 b1 5 (0, 0) []) (m := 0) rfl (by simp [maxLen])
 have K1 : Kp No w w1 := e1.kp (.inr (by omega))
 have hs1 := hs.kpn K1
 clear e1
 (refine s_mv ?_)
 refine AtR_go rfl (AtG_append (tx := 31) rfl rfl ho1 (hs1.src (T := 31) rfl) rfl (by omega) (by simp only [maxLen]; omega) (by omega) fun a2 cap2 w2 ho2 k2 hfr2 => ?_)
 have K2 : Kp No w w2 := K1.trans' k2 (fun j hj => by simp [blkOf] at hj; right; omega)
 have hf2 : ∀ j, blkOf a2 j → w.heap.size ≤ j := by
  rcases hfr2 with rfl | ⟨b', rfl, hb'⟩
  ·intro j hj; simp [blkOf] at hj; omega
  ·intro j hj; simp [blkOf] at hj; have := K1.size; omega
 clear k2 hfr2 ho1 hs1
 (refine s_mv ?_; refine s_ln ?_)
 refine s_call x_call (fillR_calls l.length _ (by omega)) ?_
 rintro _ w3 ⟨a3, cap3, rfl, ho3, hf3, k3⟩
 refine ⟨_, rfl, ?_⟩
 have ho2' := ho2.kp k3 (fun _ _ => id)
 skip
 refine AtR_go rfl (AtG_append (tx := 31) rfl rfl ho2' (ho3.sl.src (T := 31) rfl) rfl (by omega) (by simp only [maxLen]; omega) (by omega) fun a4 cap4 w4 ho4 k4 hfr4 => ?_)
 have K4 : Kp No w w4 := (K2.trans k3).trans' k4 (fun j hj => .inr (hf2 j hj))
 have hpl := padded_length l
 have hpe : (padded l).length = 0 + l.length + (fillB l.length).length := by rw [padded, List.length_append]; omega
 have hsT : Sl w4 .u8 a4 (padded l).length cap4 (bs8 (padded l)) := by
  have := own_eq ho4 (show _ = ints .u8 (bs8 (padded l)) by simp [padded, bs8, ints]) hpe.symm
  exact this.sl
 rw [← hpe]
 clear ho4 ho3 ho2 ho2' k3 k4 hfr4 K2 K1
 (refine s_as ?_; refine AtR_nil (At_seq ?_); refine At_region ?_)
 refine AtR_go rfl (AtG_buildSlice1 (ops := [.const (.int .u64 7640891576956012808), .const (.int .u64 13503953896175478587), .const (.int .u64 4354685564936845355), .const (.int .u64 11912009170470909681), .const (.int .u64 5840696475078001361), .const (.int .u64 11170449401992604703), .const (.int .u64 2270897969802886507), .const (.int .u64 6620516959819538809)]) rfl rfl (by omega) rfl rfl rfl fun b5 w5 hb5 e5 => ?_)
 have B5 : Blk w5 b5 193 (0, 0) (ints .u64 (ws (dig (padded l) 0))) := e5.blk
 have K5 := K4.trans (e5.kp (.inr (by omega)))
 have hs5 := hsT.kpn (e5.kp (.inr (by omega)))
 clear e5 hsT K4
 (refine s_as ?_; refine AtR_nil (At_seq ?_); refine At_block ?_)
 refine At_while (fun s : Nat × (Option Addr × Nat) × (Option Addr × Nat) => [(3, .slice s.2.1.1 ((padded l).length - 128 * s.1) s.2.1.2), (4, .slice s.2.2.1 8 s.2.2.2)])
  (fun s w' => s.1 ≤ blocksN l ∧ Sl w' .u8 s.2.1.1 ((padded l).length - 128 * s.1) s.2.1.2 (bs8 ((padded l).drop (128 * s.1))) ∧ Sl w' .u64 s.2.2.1 8 s.2.2.2 (ws (dig (padded l) s.1)) ∧ Kp No w w') (fun s => blocksN l - s.1) (0, (a4, cap4), (some ⟨b5, 0, none⟩, 8)) ⟨rfl, rfl, trivial⟩
  ⟨by omega, by simpa using hs5, B5.sl rfl (by omega), K5⟩ ?_
 clear hs5 B5 K5
 rintro ⟨k, ⟨ab, capb⟩, ⟨ah, caph⟩⟩ w6 junk ⟨hk, hsb, hsh, K⟩ again
 simp only at hk hsb hsh again ⊢
 by_cases hlt : k < blocksN l
 ·have hcb := hsb.le
  have hmb := hsb.max
  have hsp := hsb.spot
  rcases hsb.mem with ⟨rfl, h00⟩ | ⟨bb, ob, rfl, hbb, hseg⟩
  ·omega
  (refine At_seq (At_seq (At_region ?_)); refine s_mv ?_; refine s_ln ?_; refine s_gtr ?_; refine AtR_nil ?_; refine At_cond_t rfl ?_; refine At_skip (At_block (At_seq (At_region ?_))); refine s_mv ?_; refine s_mv ?_)
  refine s_val (x_slice_h' rfl hsp rfl (by omega) (by omega)) ?_
  rw [show (128 : Int).toNat = 128 from rfl]
  have hst : Sl w6 .u8 (some ⟨bb, ob, none⟩) 128 capb (bs8 (((padded l).drop (128 * k)).take 128)) := by
   have := hsb.take 128 (by omega)
   rw [show (bs8 ((padded l).drop (128 * k))).take 128 = bs8 (((padded l).drop (128 * k)).take 128) by simp [bs8, List.map_take]] at this
   exact this
  skip
  refine s_call x_call (one_calls (dig (padded l) k) _ ah caph _ 128 capb _ (dig_length _ _) hsh hst (by omega)) ?_
  rintro _ w7 ⟨b7, rfl, B7, hb7, k7⟩
  refine ⟨_, rfl, ?_⟩
  have hsb7 := hsb.kpn k7
  (refine s_as ?_; refine AtR_nil (At_region ?_); refine s_mv ?_)
  refine AtR_go rfl (G_val (r_drop (m := 128) hsb7 (by omega) rfl rfl) ?_)
  rintro _ _ ⟨off', rfl, hs8, rfl⟩
  rw [show (bs8 ((padded l).drop (128 * k))).drop 128 = bs8 ((padded l).drop (128 * (k + 1))) by simp only [bs8, ← List.map_drop, List.drop_drop]; congr 2] at hs8
  rw [show (padded l).length - 128 * k - 128 = (padded l).length - 128 * (k + 1) by omega] at hs8 ⊢
  (refine s_as ?_; refine AtR_nil (At_inBlock ?_))
  exact again (k + 1, (some ⟨bb, off', none⟩, capb - 128), (some ⟨b7, 0, none⟩, 8)) _ _ ⟨rfl, rfl, trivial⟩ ⟨hlt, hs8, B7.sl (by rw [ws_length]; exact dig_length _ (k + 1)) (by omega), K.trans k7⟩ (by simp only; omega)
 have hke : k = blocksN l := by omega
 subst hke
 clear again hsb
 have hd8 := dig_length (padded l) (blocksN l)
 obtain ⟨G, hG⟩ : ∃ G, G = dig (padded l) (blocksN l) := ⟨_, rfl⟩
 have hsha : sha l = outB G := by rw [hG]; rfl
 rw [← hG] at hsh hd8
 rw [hsha]
 rcases hsh.mem with ⟨rfl, h00⟩ | ⟨bh, oh, rfl, hbh, hsegh⟩
 ·have := hsh.le; omega
 (refine At_seq (At_seq (At_region ?_)); refine s_mv ?_; refine s_ln ?_; refine s_gtr ?_; refine AtR_nil ?_; refine At_cond_f rfl ?_; refine At_exit rfl ?_; refine At_seq (At_region ?_); refine s_as ?_; refine AtR_nil (At_seq (At_seq (At_region ?_))); refine s_as ?_; refine AtR_nil (At_block ?_))
 refine At_while (fun i : Nat => [(4, .slice (some ⟨bh, oh, none⟩) 8 caph), (5, strV (outB (G.take i))), (6, .int .i64 (i : Int))])
  (fun i w' => i ≤ 8 ∧ Kp No w6 w') (fun i => 8 - i) 0 ⟨rfl, rfl, rfl, trivial⟩ ⟨by omega, Kp.refl _ _⟩ ?_
 rintro i w7 junk2 ⟨hi, K7⟩ again
 have hol := outB_length (G.take i)
 rw [List.length_take] at hol
 by_cases hi8 : i < 8
 ·(refine At_seq (At_seq (At_region ?_)); refine s_mv ?_; refine s_lss ?_; refine AtR_nil ?_; refine At_cond_t rfl ?_; refine At_skip (At_seq (At_block (At_seq (At_region ?_)))); refine s_as ?_; refine AtR_nil (At_block ?_))
  refine At_while (fun d : Nat => [(4, .slice (some ⟨bh, oh, none⟩) 8 caph), (5, strV (outB (G.take i) ++ hiB (G.getD i 0) d)), (6, .int .i64 (i : Int)), (7, .int .i64 (7 - (d : Int)))])
   (fun d w' => d ≤ 8 ∧ Kp No w6 w') (fun d => 8 - d) 0 ⟨rfl, by simp [hiB]; rfl, rfl, rfl, trivial⟩ ⟨by omega, K7⟩ ?_
  rintro d w8 junk3 ⟨hd, K8⟩ again2
  have hsg8 : Seg w8 bh oh (ints .u64 (ws G)) := hsegh.kp K8 id hbh
  have hhl := hiB_length (G.getD i 0) d
  by_cases hd8' : d < 8
  ·(refine At_seq (At_seq (At_region ?_)); refine s_mv ?_; refine s_geq ?_; refine AtR_nil ?_; refine At_cond_t rfl ?_; refine At_skip (At_seq (At_block (At_region ?_))); refine s_mv ?_; refine s_mv ?_; refine s_mv ?_; refine s_ia ?_; refine s_ldw ?_; refine s_mv ?_; refine s_ml ?_; refine s_hr ?_; refine s_wb ?_)
   refine AtR_go rfl (AtG_buildSlice1 (ops := [_]) rfl rfl (by omega) rfl rfl rfl fun b9 w9 hb9 e9 => ?_)
   have B9 : Blk w9 b9 5 (0, 0) (ints .u8 (bs8 [lowb ((G.getD i 0) >>> (8 * (7 - (d : Int))).toNat)])) := e9.blk
   rw [show (8 * (7 - (d : Int))).toNat = 8 * (7 - d) by omega] at B9
   refine s_val (x_conv_bs (D := fun _ => True) rfl ((B9.sl (m := 1) rfl (by omega)).e fun _ _ => trivial)) ?_
   refine s_val (x_cat rfl rfl (by rw [List.length_append]; simp only [List.length_cons, List.length_nil]; omega)) ?_
   rw [List.append_assoc, ← hiB_snoc]
   (refine s_as ?_; refine AtR_nil (At_inBlock (At_region ?_)); refine s_mv ?_; refine s_sb ?_; refine s_as ?_; refine AtR_nil ?_)
   refine again2 (d + 1) _ _ ⟨rfl, rfl, rfl, ?_, trivial⟩ ⟨hd8', K8.trans (e9.kp (.inr (by omega)))⟩ (by omega)
   show Value.int .i64 (7 - (d : Int) - 1) = .int .i64 (7 - ((d + 1 : Nat) : Int))
   congr 1; omega
  have hde : d = 8 := by omega
  subst hde
  clear again2
  rw [← outB_snoc (by omega)]
  (refine At_seq (At_seq (At_region ?_)); refine s_mv ?_; refine s_geq ?_; refine AtR_nil ?_; refine At_cond_f rfl ?_; refine At_exit rfl ?_; refine At_inBlock (At_region ?_); refine s_mv ?_; refine s_ad ?_; refine s_as ?_; refine AtR_nil ?_)
  exact again (i + 1) _ _ ⟨rfl, rfl, rfl, trivial⟩ ⟨hi8, K8⟩ (by omega)
 have hie : i = 8 := by omega
 subst hie
 rw [List.take_of_length_le (by omega)]
 (refine At_seq (At_seq (At_region ?_)); refine s_mv ?_; refine s_lss ?_; refine AtR_nil ?_; refine At_cond_f rfl ?_; refine At_exit rfl ?_; refine At_seq (At_region ?_); refine s_mv ?_; refine s_as ?_; refine AtR_nil ?_)
 refine At_ret1 Tryd.func121 rfl (by conv => lhs; whnf) ?_
 exact ⟨rfl, K.trans K7⟩
end Go.Proofs.YtfngacepjcdlnaaDoor
