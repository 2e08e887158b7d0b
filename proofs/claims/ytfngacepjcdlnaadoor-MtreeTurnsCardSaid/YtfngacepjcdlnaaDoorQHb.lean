/- SHA-512: what is laid behind a text. | Slices put one behind another. | The reference's SHA-512: what is laid behind a text. | SHA-512: the plain law of the schedule: the words kept in a ring are those of the long list. | The reference's SHA-512: its constants; a block. -/
import Derived.Test.YtfngacepjcdlnaaDoorQHa
import Derived.Lib.AppendZeros
set_option linter.unusedVariables false
namespace Go.Proofs.YtfngacepjcdlnaaDoor
open Go Go.Kx
def lenB (N : BitVec 64) : List UInt8 := (List.range 16).map fun p => if p < 8 then lowb ((N >>> 61) >>> (8 * (7 - p))) else lowb ((N <<< 3) >>> (8 * (15 - p)))
def gapN (n : Nat) : Nat := (128 - (n + 17) % 128) % 128
def fillB (n : Nat) : List UInt8 := 128 :: List.replicate (gapN n) 0 ++ lenB (BitVec.ofNat 64 n)
theorem lenB_length (N : BitVec 64) : (lenB N).length = 16 := by simp [lenB]
theorem fillB_length (n : Nat) : (fillB n).length = 17 + gapN n := by simp [fillB, lenB_length]; omega
def lenTo (N : BitVec 64) (i : Nat) : List UInt8 := (List.range 16).map fun p => if 16 - i ≤ p then lowb ((N <<< 3) >>> (8 * (15 - p))) else 0
theorem lenTo_length (N : BitVec 64) (i : Nat) : (lenTo N i).length = 16 := by simp [lenTo]
theorem lenTo_step (N : BitVec 64) (i : Nat) (h : i < 8) : (lenTo N i).set (15 - i) (lowb ((N <<< 3) >>> (8 * i))) = lenTo N (i + 1) := by
 apply List.ext_getElem (by simp [lenTo])
 intro p h1 h2
 have hp : p < 16 := by simpa [lenTo] using h2
 rw [List.getElem_set]
 simp only [lenTo, List.getElem_map, List.getElem_range]
 by_cases e : 15 - i = p
 ·rw [if_pos e, if_pos (by omega), show 15 - p = i by omega]
 ·rw [if_neg e]
  by_cases e2 : 16 - i ≤ p
  ·rw [if_pos e2, if_pos (by omega)]
  ·rw [if_neg e2, if_neg (by omega)]
theorem lenTo_end (n : Nat) (h : n < 9223372036854775808) : (lenTo (BitVec.ofNat 64 n) 8).set 7 (lowb (BitVec.ofNat 64 n >>> 61)) = lenB (BitVec.ofNat 64 n) := by
 apply List.ext_getElem (by simp [lenTo, lenB])
 intro p h1 h2
 have hp : p < 16 := by simpa [lenB] using h2
 rw [List.getElem_set]
 simp only [lenTo, lenB, List.getElem_map, List.getElem_range]
 by_cases e : 7 = p
 ·subst e; simp
 ·rw [if_neg e]
  by_cases e2 : p < 8
  ·rw [if_pos e2, if_neg (by omega)]
   have h3 : (BitVec.ofNat 64 n >>> 61) >>> (8 * (7 - p)) = 0 := by
    apply BitVec.eq_of_toNat_eq
    rw [BitVec.toNat_ushiftRight, BitVec.toNat_ushiftRight, BitVec.toNat_ofNat, Nat.shiftRight_eq_div_pow, Nat.shiftRight_eq_div_pow]
    have h4 : n % 2 ^ 64 / 2 ^ 61 < 8 := by omega
    have h5 : (2 : Nat) ^ 8 ≤ 2 ^ (8 * (7 - p)) := Nat.pow_le_pow_right (by omega) (by omega)
    rw [Nat.div_eq_of_lt (by omega)]
    rfl
   rw [h3]; rfl
  ·rw [if_neg e2, if_pos (by omega)]
theorem wrap_nat (n : Nat) : IntKind.u64.wrap (n : Int) = uw (BitVec.ofNat 64 n) := by
 rw [wrap_u64]; unfold uw; rw [BitVec.toNat_ofNat]; omega
theorem Blk.own {w : World} {b : Nat} {E : TypeId} {cs : List Value} {m : Nat} (h : Blk w b E (0, 0) cs) (hm : cs.length = m) (hx : m ≤ maxLen) : Own w E 1 (some ⟨b, 0, none⟩) m m cs :=
 ⟨by omega, Nat.le_refl _, hx, .inr ⟨b, [], rfl, by rw [List.append_nil]; exact h, by simp; omega⟩⟩
theorem own_eq {w : World} {E : TypeId} {a : Option Addr} {m m' cap : Nat} {cs cs' : List Value} (h : Own w E 1 a m cap cs) (e : cs = cs') (hm : m = m') : Own w E 1 a m' cap cs' := by subst e; subst hm; exact h
set_option maxRecDepth 100000 in
set_option maxHeartbeats 2000000 in
theorem fill_calls (n : Nat) (w : World) (hn : n ≤ 70368744177664) :
  Calls Tryd.prog 136 #[.int .i64 (n : Int)] w
   fun e w' => ∃ a cap, e = .returned (.slice a (fillB n).length cap) ∧ Own w' 5 1 a (fillB n).length cap (ints .u8 (bs8 (fillB n))) ∧ (∀ j, blkOf a j → w.heap.size ≤ j) ∧ Kp No w w' := by
 refine calls_at (n := 45) Tryd.func136 rfl rfl (by simp) ?_
 (refine At_seq (At_region ?_); refine s_as ?_; refine AtR_nil (At_seq (At_region ?_)); refine s_mv ?_)
 refine s_val (x_max rfl rfl) ?_
 rw [show max (n : Int) 0 = n by omega]
 (refine s_as ?_; refine AtR_nil (At_seq ?_); refine At_region ?_)
 refine AtR_go rfl (AtG_buildSlice1 (ops := [_]) rfl rfl (by omega) rfl rfl rfl fun b w1 hb e1 => ?_)
 have B1 : Blk w1 b 5 (0, 0) (ints .u8 (bs8 (128 :: List.replicate 0 0))) := e1.blk
 have ho1 := Blk.own B1 (m := 1) rfl (by simp [maxLen])
 have K1 : Kp No w w1 := e1.kp (.inr (by omega))
 have hz1 := e1.size
 clear e1 B1
 have hg : gapN n ≤ 127 := by unfold gapN; omega
 (refine s_as ?_; refine AtR_nil (At_seq ?_); refine At_block ?_)
 refine At_while (fun s : Nat × (Option Addr × Nat) => [(0, .int .i64 (n : Int)), (3, .slice s.2.1 (s.1 + 1) s.2.2)])
  (fun s w' => s.1 ≤ gapN n ∧ Own w' 5 1 s.2.1 (s.1 + 1) s.2.2 (ints .u8 (bs8 (128 :: List.replicate s.1 0))) ∧ (∀ j, blkOf s.2.1 j → w.heap.size ≤ j) ∧ Kp No w w') (fun s => gapN n - s.1) (0, (some ⟨b, 0, none⟩, 1)) ⟨rfl, rfl, trivial⟩
  ⟨by omega, ho1, fun j hj => by simp [blkOf] at hj; omega, K1⟩ ?_
 clear ho1 K1 hb hz1
 rintro ⟨i, ⟨a, cap⟩⟩ w2 junk ⟨hi, ho, hf, K⟩ again
 simp only at hi ho hf again ⊢
 by_cases hlt : i < gapN n
 ·have hne : ¬ ((n : Int) + ((i + 1 : Nat) : Int) + 16) % 128 = 0 := by unfold gapN at hlt; omega
  (refine At_seq (At_seq (At_region ?_)); refine s_mv ?_; refine s_mv ?_; refine s_ln ?_; refine s_ad ?_; refine s_ad ?_; refine s_rm ?_; refine s_neq ?_; refine AtR_nil ?_; refine At_cond_t rfl ?_; refine At_skip (At_block (At_region ?_)); refine s_mv ?_)
  refine AtR_go rfl (AtG_buildSlice1 (ops := [_]) rfl rfl (by omega) rfl rfl rfl fun b3 w3 hb3 e3 => ?_)
  have B3 : Blk w3 b3 5 (0, 0) (ints .u8 [0]) := e3.blk
  have ho3 := ho.kp (e3.kp (S := No) (.inr (by omega))) (fun _ _ => id)
  have K3 := K.trans (e3.kp (.inr (by omega)))
  have hz3 := e3.size
  clear e3 ho
  refine AtR_go rfl (AtG_append (tx := 31) rfl rfl ho3 ((B3.sl (m := 1) rfl (by omega)).src (T := 31) rfl) rfl (by omega) (by simp [maxLen]; omega) (by omega) fun a' cap' w4 ho4 k4 hfr4 => ?_)
  have hzK := K3.size
  (refine s_as ?_; refine AtR_nil (At_inBlock ?_))
  refine again (i + 1, (a', cap')) _ _ ⟨rfl, rfl, trivial⟩ ⟨hlt, own_eq ho4 ?_ rfl, ?_, K3.trans' k4 (fun j hj => .inr (hf j hj))⟩ (by simp only; omega)
  ·rw [List.replicate_succ']
   simp [ints, bs8]
   rfl
  ·rcases hfr4 with rfl | ⟨b', rfl, hb'⟩
   ·exact hf
   ·intro j hj; simp [blkOf] at hj; omega
 have hie : i = gapN n := by omega
 clear again
 have he : ((n : Int) + ((i + 1 : Nat) : Int) + 16) % 128 = 0 := by rw [hie]; unfold gapN; omega
 (refine At_seq (At_seq (At_region ?_)); refine s_mv ?_; refine s_mv ?_; refine s_ln ?_; refine s_ad ?_; refine s_ad ?_; refine s_rm ?_; refine s_neq ?_; refine AtR_nil ?_; refine At_cond_f rfl ?_; refine At_exit rfl ?_; refine At_seq (At_region ?_))
 refine AtR_go rfl (AtG_make1 (z := .int .u8 0) rfl rfl (by omega) (by omega) rfl (by omega) (by omega) fun b3 w3 hb3 e3 => ?_)
 have B3 : Blk w3 b3 5 (0, 0) (ints .u8 (bs8 (lenTo (BitVec.ofNat 64 n) 0))) := e3.blk
 have ho3 := ho.kp (e3.kp (S := No) (.inr (by omega))) (fun _ _ => id)
 have K3 := K.trans (e3.kp (.inr (by omega)))
 have hlo := ho.lt
 have hnb : ¬ blkOf a b3 := fun h => by have := hlo _ h; omega
 clear e3 ho
 (refine s_as ?_; refine AtR_nil (At_seq (At_region ?_)); refine s_mv ?_; refine s_cv ?_; refine s_as ?_; refine AtR_nil (At_seq (At_seq (At_region ?_))); refine s_mv ?_; refine AtR_nil (At_block ?_))
 rw [wrap_nat]
 skip
 refine At_while (fun i' : Nat => [(3, .slice a (i + 1) cap), (4, .slice (some ⟨b3, 0, none⟩) 16 16), (5, .int .u64 (uw (BitVec.ofNat 64 n))), (23, .int .i64 (i' : Int))])
  (fun i' w' => i' ≤ 8 ∧ Blk w' b3 5 (0, 0) (ints .u8 (bs8 (lenTo (BitVec.ofNat 64 n) i'))) ∧ Kp (fun j => j = b3) w3 w') (fun i' => 8 - i') 0 ⟨rfl, rfl, rfl, rfl, trivial⟩
  ⟨by omega, B3, Kp.refl _ _⟩ ?_
 clear B3
 rintro i' w4 junk2 ⟨hi', B4, K4⟩ again
 have hlen := lenTo_length (BitVec.ofNat 64 n) i'
 by_cases hlt2 : i' < 8
 ·(refine At_seq (At_region ?_); refine s_lss ?_; refine AtR_nil (At_seq ?_); refine At_cond_t rfl ?_; refine At_skip (At_seq (At_block (At_seq (At_region ?_)))); refine s_mv ?_; refine s_as ?_; refine AtR_nil (At_region ?_); refine s_mv ?_; refine s_mv ?_; refine s_sb ?_; refine s_mv ?_; refine s_hl ?_; refine s_mv ?_; refine s_ml ?_; refine s_hr ?_; refine s_wb ?_; refine s_ia ?_)
  refine AtR_go rfl (G_skip (r_store_bb rfl rfl B4 (by omega) rfl) fun w5 e5 => ?_)
  have B5 : Blk w5 b3 5 (0, 0) (ints .u8 (bs8 (lenTo (BitVec.ofNat 64 n) (i' + 1)))) := by
   have := e5.blk
   rw [show (15 - (i' : Int)).toNat = 15 - i' by omega, show (8 * (i' : Int)).toNat = 8 * i' by omega, show (3 : Int).toNat = 3 from rfl, lenTo_step _ _ hlt2] at this
   exact this
  (refine AtR_nil (At_inBlock (At_region ?_)); refine s_ad ?_; refine s_mv ?_; refine AtR_nil ?_)
  exact again (i' + 1) _ _ ⟨rfl, rfl, rfl, rfl, trivial⟩ ⟨hlt2, B5, K4.trans (e5.kp (.inl rfl))⟩ (by omega)
 have hi8 : i' = 8 := by omega
 subst hi8
 clear again
 (refine At_seq (At_region ?_); refine s_lss ?_; refine AtR_nil (At_seq ?_); refine At_cond_f rfl ?_; refine At_exit rfl ?_; refine At_seq (At_region ?_); refine s_mv ?_; refine s_mv ?_; refine s_hr ?_; refine s_wb ?_; refine s_ia ?_)
 refine AtR_go rfl (G_skip (r_store_bb rfl rfl B4 (by omega) rfl) fun w5 e5 => ?_)
 have B5 : Blk w5 b3 5 (0, 0) (ints .u8 (bs8 (lenB (BitVec.ofNat 64 n)))) := by
  have := e5.blk
  rw [show (7 : Int).toNat = 7 from rfl, show (61 : Int).toNat = 61 from rfl, lenTo_end n (by omega)] at this
  exact this
 have K5 := K4.trans (e5.kp (S := fun j => j = b3) (.inl rfl))
 have ho5 := ho3.kp K5 (fun j hj e => hnb (e ▸ hj))
 clear e5 K4 ho3
 (refine AtR_nil (At_seq (At_region ?_)); refine s_mv ?_; refine s_mv ?_)
 refine AtR_go rfl (AtG_append (tx := 31) rfl rfl ho5 ((B5.sl (m := 16) (by simp [lenB_length]) (by omega)).src (T := 31) rfl) rfl (by omega) (by simp [maxLen]; omega) (by omega) fun a' cap' w6 ho6 k6 hfr6 => ?_)
 have hzK := K3.size
 have hz5 := K5.size
 (refine s_as ?_; refine AtR_nil ?_)
 have hel : i + 1 + 16 = (fillB n).length := by rw [fillB_length]; omega
 rw [hel]
 refine At_ret1 Tryd.func136 rfl (by conv => lhs; whnf) ?_
 refine ⟨a', cap', rfl, own_eq ho6 ?_ hel, ?_, ?_⟩
 ·subst hie; simp [fillB, bs8, ints]
 ·rcases hfr6 with rfl | ⟨b', rfl, hb'⟩
  ·exact hf
  ·intro j hj; simp [blkOf] at hj; omega
 ·exact (K3.trans' K5 (by rintro j rfl; right; have := K.size; omega)).trans' k6 (fun j hj => .inr (hf j hj))
end Go.Proofs.YtfngacepjcdlnaaDoor
namespace Go.Kx
open Go
section
variable {P : Program} {f : Fm} {n : Nat} {R : Ending → World → Prop} {k : List Item} {env : Env} {w : World} {dst : Option Tmp} {ty : TypeId} {pos : String} {aft : Array Edge} {g : Option (Nat × Bool)} {pre rest : List Oper}
theorem zeroCells_one (z : Value) (m : Nat) : Builtin.zeroCells #[z] m = (List.replicate m z).toArray := by
 apply Array.ext
 ·simp [Builtin.zeroCells]
 ·intro i h1 h2
  simp [Builtin.zeroCells, Nat.mod_one]
theorem AtG_append0 {T tn E : TypeId} {z : Value} {y : Nat} {kn : IntKind} [hT : TU P T (.slice E)] [hN : TU P tn (.int kn)] [TZ P E z] [TSz P E 1] [TBy P E y]
  {xd xs : Operand} {ki : IntKind} {m : Nat} (hd : ev n env xd = .slice none 0 0) (hx : ev n env xs = .int ki (m : Int)) (hz : one z = true) (h0 : 0 < m) (h63 : m ≤ maxLen) (hby : m * y ≤ 281474976710656)
  (h : ∀ b cap' w', b = w.heap.size → Own w' E 1 (some ⟨b, 0, none⟩) m cap' (List.replicate m z) → Kp No w w' →
   AtR P f n R (⟨dst, .call ⟨.builtin .append, #[xd, xs], #[T, tn]⟩, ty, pos, aft, g⟩ :: pre) rest k (updo env dst (.slice (some ⟨b, 0, none⟩) m cap')) w') :
  AtG P f n R pre ⟨dst, .call ⟨.builtin .append, #[xd, xs], #[T, tn]⟩, ty, pos, aft, g⟩ rest k env w := by
 obtain ⟨i, hi, hiz, hsz, hby'⟩ := info_of (P := P) (T := E) (z := z) (s := 1) (y := y)
 subst hby'
 have hzc : z.cells = #[z] := by cases z <;> simp_all [one, Value.cells]
 have hr := Lib.run_append_nil_zeros (P := P) w T tn ty E i z ki kn hT.h hN.h hi hiz m h0 (by omega) (by simp only [maxLen] at h63; omega) hby
 rw [hzc, zeroCells_one, zeroCells_one] at hr
 have hge := grownCap_ge w m 0 E
 have e := eff_push w.drew (.cells ((List.replicate m z).toArray ++ (List.replicate (grownCap w m 0 E - m) z).toArray) E)
 refine AtG_value (w' := w.drew.alloc (.cells ((List.replicate m z).toArray ++ (List.replicate (grownCap w m 0 E - m) z).toArray) E)) ?_ (h w.heap.size (grownCap w m 0 E) _ rfl ?_ ?_)
 ·unfold Run
  simp only [execOp, resolve, invoke, builtin, hd, hx, List.map_toArray, List.map_cons, List.map_nil, Sem.run_bind, Sem.run_pure, Result.andThen_ok, hr]
 ·refine ⟨by simp, hge, grownCap_le_maxLen w m 0 E h63, .inr ⟨_, List.replicate (grownCap w m 0 E - m) z, rfl, ?_, by simp; omega⟩⟩
  have h1 := e.here
  unfold Blk
  rw [show (List.replicate m z ++ List.replicate (grownCap w m 0 E - m) z).toArray = (List.replicate m z).toArray ++ (List.replicate (grownCap w m 0 E - m) z).toArray by simp]
  exact h1
 ·exact ⟨e.os, e.tape, e.output, e.size, fun j _ hl => e.other j (Nat.ne_of_lt hl) hl⟩
theorem SlE.src {D : Nat → Prop} {kk : IntKind} {a : Option Addr} {len cap : Nat} {xs : List Int} {T E : TypeId} (h : SlE w kk a len cap xs D) (hT : P.underlying T = some (.slice E)) : Src P 1 T (.slice a len cap) len (ints kk xs) w := by
 have hl := h.len_eq
 rcases h.mem with hc | ⟨b, off, rfl, hlt, _, hs⟩
 ·have : len = 0 := by have := h.le; omega
  subst this
  have : xs = [] := List.eq_nil_of_length_eq_zero hl
  subst this
  cases a with
  | none => exact Src.ofNil w hT cap
  | some a => exact Src.ofSlice w hT a 0 cap [] (by simp) (fun j u hj => by simp at hj) (fun u hu => by cases hu)
 ·exact Sl.src ⟨hl, h.le, h.max, .inr ⟨b, off, rfl, hlt, hs⟩⟩ hT
end
end Go.Kx
namespace Go.Proofs.YtfngacepjcdlnaaDoor
open Go Go.Kx
theorem Own.none_of {w : World} {E : TypeId} {a : Option Addr} {m cap : Nat} {cs : List Value} (h : Own w E 1 a m cap cs) : Own w E 1 a 0 cap [] := by
 obtain ⟨h1, h2, h3, h4⟩ := h
 refine ⟨by simp, Nat.zero_le _, h3, h4.imp id ?_⟩
 rintro ⟨b, sp, rfl, hB, hl⟩
 exact ⟨b, cs ++ sp, rfl, by rw [List.nil_append]; exact hB, by rw [List.nil_append]; exact hl⟩
set_option maxRecDepth 100000 in
theorem grow_calls (m : Nat) (w : World) (hm : m ≤ 70368744177664) :
  Calls Tryd.prog 117 #[.slice none 0 0, .int .i64 (m : Int)] w
   fun e w' => ∃ a cap, e = .returned (.slice a 0 cap) ∧ Own w' 5 1 a 0 cap [] ∧ (∀ j, blkOf a j → w.heap.size ≤ j) ∧ Kp No w w' := by
 refine calls_at (n := 27) Tryd.func117 rfl rfl (by simp) ?_
 have hsp : ∀ ad : Addr, (none : Option Addr) = some ad → ad.spot = none := by intro ad h; cases h
 by_cases h0 : 0 < m
 ·(refine At_seq (At_region ?_); refine s_as ?_; refine AtR_nil (At_seq (At_seq (At_region ?_))); refine s_mv ?_; refine s_lss ?_; refine AtR_nil ?_; refine At_cond_f rfl ?_; refine At_skip (At_seq (At_seq (At_region ?_))); refine s_mv ?_; refine s_mv ?_; refine s_cp ?_; refine s_mv ?_; refine s_ln ?_; refine s_sb ?_; refine s_sb ?_; refine s_as ?_; refine AtR_nil (At_seq (At_region ?_)); refine s_mv ?_; refine s_gtr ?_; refine AtR_nil ?_; refine At_cond_t rfl ?_; refine At_region ?_; refine s_mv ?_; refine s_mv ?_; refine s_cp ?_; refine s_sl ?_; refine s_mv ?_)
  rw [show (m : Int) - (((0 : Nat) : Int) - ((0 : Nat) : Int)) = m by omega]
  skip
  refine AtR_go rfl (AtG_append0 (z := .int .u8 0) rfl rfl rfl h0 (by simp only [maxLen]; omega) (by omega) fun b cap' w1 hb ho1 k1 => ?_)
  have hsp2 : ∀ ad : Addr, some (⟨b, 0, none⟩ : Addr) = some ad → ad.spot = none := by rintro _ ⟨⟩; rfl
  (refine s_mv ?_; refine s_ln ?_; refine s_sl ?_; refine s_as ?_; refine AtR_nil (At_seq (At_region ?_)); refine s_mv ?_; refine s_as ?_; refine AtR_nil ?_)
  refine At_ret1 Tryd.func117 rfl (by conv => lhs; whnf) ?_
  exact ⟨_, _, rfl, Own.none_of ho1, fun j hj => by simp [blkOf] at hj; omega, k1⟩
 ·have : m = 0 := by omega
  subst this
  (refine At_seq (At_region ?_); refine s_as ?_; refine AtR_nil (At_seq (At_seq (At_region ?_))); refine s_mv ?_; refine s_lss ?_; refine AtR_nil ?_; refine At_cond_f rfl ?_; refine At_skip (At_seq (At_seq (At_region ?_))); refine s_mv ?_; refine s_mv ?_; refine s_cp ?_; refine s_mv ?_; refine s_ln ?_; refine s_sb ?_; refine s_sb ?_; refine s_as ?_; refine AtR_nil (At_seq (At_region ?_)); refine s_mv ?_; refine s_gtr ?_; refine AtR_nil ?_; refine At_cond_f rfl ?_; refine At_skip (At_seq (At_region ?_)); refine s_mv ?_; refine s_as ?_; refine AtR_nil ?_)
  refine At_ret1 Tryd.func117 rfl (by conv => lhs; whnf) ?_
  exact ⟨_, _, rfl, Own.nil _ _ _, fun j hj => by simp [blkOf] at hj, Kp.refl _ _⟩
structure Pc where
 a : Option Addr
 len : Nat
 cap : Nat
 xs : List UInt8
instance : Inhabited Pc := ⟨none, 0, 0, []⟩
def pcV (p : Pc) : Value := .slice p.a p.len p.cap
def flat (ps : List Pc) : List UInt8 := ps.flatMap (·.xs)
structure SlP (w : World) (a : Option Addr) (len cap : Nat) (ps : List Pc) (D : Nat → Prop) : Prop where
 len_eq : ps.length = len
 le : len ≤ cap
 max : cap ≤ 9223372036854775807
 mem : cap = 0 ∨ ∃ b off, a = some ⟨b, off, none⟩ ∧ b < w.heap.size ∧ D b ∧ Seg w b off (ps.map pcV)
 inner : ∀ p ∈ ps, SlE w .u8 p.a p.len p.cap (bs8 p.xs) D
theorem SlP.kp {S D : Nat → Prop} {w w' : World} {a : Option Addr} {len cap : Nat} {ps : List Pc} (h : SlP w a len cap ps D) (hk : Kp S w w') (hb : ∀ b, D b → ¬ S b) : SlP w' a len cap ps D := by
 refine ⟨h.len_eq, h.le, h.max, h.mem.imp id ?_, fun x hx => (h.inner x hx).kp hk hb⟩
 rintro ⟨b, off, rfl, hl, hd, hs⟩
 exact ⟨b, off, rfl, Nat.lt_of_lt_of_le hl hk.size, hd, hs.kp hk (hb b hd) hl⟩
theorem SlP.kpn {D : Nat → Prop} {w w' : World} {a : Option Addr} {len cap : Nat} {ps : List Pc} (h : SlP w a len cap ps D) (hk : Kp No w w') : SlP w' a len cap ps D := h.kp hk fun _ _ => id
theorem getD_lt' {α : Type} {d : α} {l : List α} {i : Nat} (h : i < l.length) : l.getD i d = l[i] := by simp [List.getD, h]
theorem flat_snoc (ps : List Pc) (i : Nat) (h : i < ps.length) : flat (ps.take (i + 1)) = flat (ps.take i) ++ (ps.getD i default).xs := by
 unfold flat
 rw [List.take_succ_eq_append_getElem h, List.flatMap_append, getD_lt' h]
 simp only [List.flatMap_cons, List.flatMap_nil, List.append_nil]
theorem flat_le (ps : List Pc) (i : Nat) : (flat (ps.take i)).length ≤ (flat ps).length := by
 have : flat ps = flat (ps.take i) ++ flat (ps.drop i) := by
  unfold flat
  rw [← List.flatMap_append, List.take_append_drop]
 rw [this, List.length_append]; omega
theorem pc_get {w : World} {b off : Nat} {ps : List Pc} {i : Nat} (h : Seg w b off (ps.map pcV)) (hi : i < ps.length) : w.cell? ⟨b, off + i, none⟩ = some (pcV (ps.getD i default)) := by
 rw [h i (by simpa using hi)]
 simp [List.getD, hi]
theorem x_load_pc {T : TypeId} [TOne Tryd.prog T] {n : Nat} {env : Env} {w : World} {dst : Option Tmp} {ty : TypeId} {pos : String} {aft : Array Edge} {g : Option (Nat × Bool)} {x : Operand} {b off i : Nat} {ps : List Pc} (hx : ev n env x = .pointer (some ⟨b, off + i, none⟩))
  (h : Seg w b off (ps.map pcV)) (hi : i < ps.length) :
  Run Tryd.prog n env ⟨dst, .load T x, ty, pos, aft, g⟩ w (.ok (.value (.slice (ps.getD i default).a (ps.getD i default).len (ps.getD i default).cap)) w) := by
 unfold Run
 simp [execOp, hx, Instr.loadAt, Instr.sureAddr, run_load_cell (P := Tryd.prog) (T := T) (pc_get h hi), pcV]
set_option maxRecDepth 100000 in
set_option maxHeartbeats 1000000 in
theorem concat_calls (ps : List Pc) (a : Option Addr) (len cap : Nat) (w : World) {D : Nat → Prop} (hs : SlP w a len cap ps D) (hb : (flat ps).length ≤ 70368744177664) :
  Calls Tryd.prog 99 #[.slice a len cap] w
   fun e w' => ∃ a' cap', e = .returned (.slice a' (flat ps).length cap') ∧ Own w' 5 1 a' (flat ps).length cap' (ints .u8 (bs8 (flat ps))) ∧ (∀ j, blkOf a' j → w.heap.size ≤ j) ∧ Kp No w w' := by
 have hl := hs.len_eq
 have hmx := hs.max
 have hc := hs.le
 refine calls_at (n := 36) Tryd.func99 rfl rfl (by simp) ?_
 (refine At_seq (At_region ?_); refine s_as ?_; refine AtR_nil (At_seq (At_region ?_)); refine s_as ?_; refine AtR_nil (At_seq (At_seq (At_region ?_))); refine s_mv ?_; refine s_ln ?_; refine s_mv ?_; refine AtR_nil (At_block ?_))
 refine At_while (fun i : Nat => [(0, .slice a len cap), (3, .int .i64 ((flat (ps.take i)).length : Int)), (9, .slice a len cap), (10, .int .i64 (len : Int)), (11, .int .i64 (i : Int))])
  (fun i w' => i ≤ len ∧ w' = w) (fun i => len - i) 0 ⟨rfl, rfl, rfl, rfl, rfl, trivial⟩ ⟨by omega, rfl⟩ ?_
 rintro i w junk ⟨hi, rfl⟩ again
 have hfl := flat_le ps i
 by_cases hlt : i < len
 ·rcases hs.mem with h0 | ⟨b, off, rfl, hlb, hD, hsg⟩
  ·omega
  have hin := hs.inner (ps.getD i default) (by simp [List.getD, show i < ps.length by omega])
  have hle := hin.len_eq
  have hfs := flat_snoc ps i (by omega)
  have hfl2 := flat_le ps (i + 1)
  rw [hfs, List.length_append] at hfl2
  simp only [bs8_length] at hle
  (refine At_seq (At_region ?_); refine s_lss ?_; refine AtR_nil (At_seq ?_); refine At_cond_t rfl ?_; refine At_skip (At_seq (At_block (At_seq (At_region ?_)))); refine s_ia ?_)
  refine s_val (x_load_pc rfl hsg (by omega)) ?_
  (refine s_as ?_; refine AtR_nil (At_seq (At_region ?_)); refine s_mv ?_; refine s_mv ?_; refine s_ln ?_; refine s_ad ?_; refine s_as ?_; refine AtR_nil (At_seq (At_region ?_)); refine s_mv ?_; refine s_lss ?_; refine AtR_nil ?_; refine At_cond_f rfl ?_; refine At_skip (At_inBlock (At_region ?_)); refine s_ad ?_; refine s_mv ?_; refine AtR_nil ?_)
  refine again (i + 1) _ _ ⟨rfl, ?_, rfl, rfl, rfl, trivial⟩ ⟨hlt, rfl⟩ (by omega)
  rw [hfs, List.length_append, ← hle]
  rfl
 have hil : i = len := by omega
 clear again
 rw [List.take_of_length_le (by omega)]
 (refine At_seq (At_region ?_); refine s_lss ?_; refine AtR_nil (At_seq ?_); refine At_cond_f rfl ?_; refine At_exit rfl ?_; refine At_seq (At_region ?_); refine s_mv ?_)
 refine s_call x_call (grow_calls (flat ps).length _ hb) ?_
 rintro _ w1 ⟨a1, cap1, rfl, ho1, hf1, k1⟩
 refine ⟨_, rfl, ?_⟩
 have hs1 := hs.kpn k1
 (refine s_as ?_; refine AtR_nil (At_seq (At_seq (At_region ?_))); refine s_mv ?_; refine s_ln ?_; refine s_mv ?_; refine AtR_nil (At_block ?_))
 refine At_while (fun s : Nat × (Option Addr × Nat) => [(6, .slice s.2.1 (flat (ps.take s.1)).length s.2.2), (25, .slice a len cap), (26, .int .i64 (len : Int)), (27, .int .i64 (s.1 : Int))])
  (fun s w' => s.1 ≤ len ∧ Own w' 5 1 s.2.1 (flat (ps.take s.1)).length s.2.2 (ints .u8 (bs8 (flat (ps.take s.1)))) ∧ (∀ j, blkOf s.2.1 j → w.heap.size ≤ j) ∧ Kp No w w') (fun s => len - s.1) (0, (a1, cap1)) ⟨rfl, rfl, rfl, rfl, trivial⟩
  ⟨by omega, ho1, hf1, k1⟩ ?_
 clear ho1 hs1 k1 hf1
 rintro ⟨j, ⟨a2, cap2⟩⟩ w2 junk2 ⟨hj, ho2, hf2, K2⟩ again
 simp only at hj ho2 hf2 again ⊢
 have hfl3 := flat_le ps j
 by_cases hlt2 : j < len
 ·have hs2 := hs.kpn K2
  rcases hs2.mem with h0 | ⟨b, off, rfl, hlb, hD, hsg⟩
  ·omega
  have hin := hs2.inner (ps.getD j default) (by simp [List.getD, show j < ps.length by omega])
  have hle := hin.len_eq
  have hfs := flat_snoc ps j (by omega)
  have hfl4 := flat_le ps (j + 1)
  rw [hfs, List.length_append] at hfl4
  simp only [bs8_length] at hle
  (refine At_seq (At_region ?_); refine s_lss ?_; refine AtR_nil (At_seq ?_); refine At_cond_t rfl ?_; refine At_skip (At_seq (At_block (At_seq (At_region ?_)))); refine s_ia ?_)
  refine s_val (x_load_pc rfl hsg (by omega)) ?_
  (refine s_as ?_; refine AtR_nil (At_region ?_); refine s_mv ?_; refine s_mv ?_)
  refine AtR_go rfl (AtG_append (tx := 31) rfl rfl ho2 (hin.src (T := 31) rfl) rfl (by omega) (by simp only [maxLen]; omega) (by omega) fun a' cap' w4 ho4 k4 hfr4 => ?_)
  have hz := K2.size
  (refine s_as ?_; refine AtR_nil (At_inBlock (At_region ?_)); refine s_ad ?_; refine s_mv ?_; refine AtR_nil ?_)
  refine again (j + 1, (a', cap')) _ _ ⟨?_, rfl, rfl, rfl, trivial⟩ ⟨hlt2, own_eq ho4 ?_ ?_, ?_, K2.trans' k4 (fun j hj => .inr (hf2 j hj))⟩ (by simp only; omega)
  ·simp only
   rw [hfs, List.length_append, hle]
   rfl
  ·simp only [hfs, bs8_app, ints, List.map_append]
  ·simp only [hfs, List.length_append, hle]
  ·rcases hfr4 with rfl | ⟨b', rfl, hb'⟩
   ·exact hf2
   ·intro j hj; simp [blkOf] at hj; omega
 clear again
 rw [List.take_of_length_le (by omega)] at ho2 ⊢
 (refine At_seq (At_region ?_); refine s_lss ?_; refine AtR_nil (At_seq ?_); refine At_cond_f rfl ?_; refine At_exit rfl ?_; refine At_seq (At_region ?_); refine s_mv ?_; refine s_as ?_; refine AtR_nil ?_)
 refine At_ret1 Tryd.func99 rfl (by conv => lhs; whnf) ?_
 exact ⟨_, _, rfl, ho2, hf2, K2⟩
end Go.Proofs.YtfngacepjcdlnaaDoor
namespace Go.Proofs.YtfngacepjcdlnaaDoor
open Go Go.Kx
def hiB (X : BitVec 64) (i : Nat) : List UInt8 := (List.range i).map fun p => lowb (X >>> (8 * (7 - p)))
theorem hiB_length (X : BitVec 64) (i : Nat) : (hiB X i).length = i := by simp [hiB]
theorem hiB_snoc (X : BitVec 64) (i : Nat) : hiB X (i + 1) = hiB X i ++ [lowb (X >>> (8 * (7 - i)))] := by simp [hiB, List.range_succ]
theorem lenB_eq (N : BitVec 64) : lenB N = hiB (N >>> 61) 8 ++ hiB (N <<< 3) 8 := rfl
theorem quo61 (N : BitVec 64) : IntKind.u64.wrap ((uw N).tdiv 2305843009213693952) = uw (N >>> 61) := by
 have := N.isLt
 rw [wrap_u64, Int.tdiv_eq_ediv_of_nonneg (uw_bd N).1]
 unfold uw
 rw [BitVec.toNat_ushiftRight, Nat.shiftRight_eq_div_pow]
 omega
theorem mul8 (N : BitVec 64) : N * (8 : BitVec 64) = N <<< 3 := by
 apply BitVec.eq_of_toNat_eq
 rw [BitVec.toNat_mul, BitVec.toNat_shiftLeft, Nat.shiftLeft_eq]
 rfl
set_option maxRecDepth 100000 in
set_option maxHeartbeats 2000000 in
theorem fillR_calls (n : Nat) (w : World) (hn : n ≤ 70368744177664) :
  Calls Tryd.prog 132 #[.int .i64 (n : Int)] w
   fun e w' => ∃ a cap, e = .returned (.slice a (fillB n).length cap) ∧ Own w' 5 1 a (fillB n).length cap (ints .u8 (bs8 (fillB n))) ∧ (∀ j, blkOf a j → w.heap.size ≤ j) ∧ Kp No w w' := by
 refine calls_at (n := 51) Tryd.func132 rfl rfl (by simp) ?_
 (refine At_seq (At_region ?_); refine s_as ?_; refine AtR_nil (At_seq (At_seq (At_region ?_))); refine s_mv ?_; refine s_lss ?_; refine AtR_nil ?_; refine At_cond_f rfl ?_; refine At_skip (At_seq ?_); refine At_region ?_)
 refine AtR_go rfl (AtG_buildSlice1 (ops := [_]) rfl rfl (by omega) rfl rfl rfl fun b w1 hb e1 => ?_)
 have B1 : Blk w1 b 5 (0, 0) (ints .u8 (bs8 (128 :: List.replicate 0 0))) := e1.blk
 have ho1 := Blk.own B1 (m := 1) rfl (by simp [maxLen])
 have K1 : Kp No w w1 := e1.kp (.inr (by omega))
 have hz1 := e1.size
 clear e1 B1
 have hg : gapN n ≤ 127 := by unfold gapN; omega
 (refine s_as ?_; refine AtR_nil (At_seq ?_); refine At_block ?_)
 refine At_while (fun s : Nat × (Option Addr × Nat) => [(0, .int .i64 (n : Int)), (3, .slice s.2.1 (s.1 + 1) s.2.2)])
  (fun s w' => s.1 ≤ gapN n ∧ Own w' 5 1 s.2.1 (s.1 + 1) s.2.2 (ints .u8 (bs8 (128 :: List.replicate s.1 0))) ∧ (∀ j, blkOf s.2.1 j → w.heap.size ≤ j) ∧ Kp No w w') (fun s => gapN n - s.1) (0, (some ⟨b, 0, none⟩, 1)) ⟨rfl, rfl, trivial⟩
  ⟨by omega, ho1, fun j hj => by simp [blkOf] at hj; omega, K1⟩ ?_
 clear ho1 K1 hb hz1
 rintro ⟨i, ⟨a, cap⟩⟩ w2 junk ⟨hi, ho, hf, K⟩ again
 simp only at hi ho hf again ⊢
 by_cases hlt : i < gapN n
 ·have hne : ¬ ((n : Int) + ((i + 1 : Nat) : Int)) % 128 = 112 := by unfold gapN at hlt; omega
  (refine At_seq (At_seq (At_region ?_)); refine s_mv ?_; refine s_mv ?_; refine s_ln ?_; refine s_ad ?_; refine s_rm ?_; refine s_neq ?_; refine AtR_nil ?_; refine At_cond_t rfl ?_; refine At_skip (At_block (At_region ?_)); refine s_mv ?_)
  refine AtR_go rfl (AtG_buildSlice1 (ops := [_]) rfl rfl (by omega) rfl rfl rfl fun b3 w3 hb3 e3 => ?_)
  have B3 : Blk w3 b3 5 (0, 0) (ints .u8 [0]) := e3.blk
  have ho3 := ho.kp (e3.kp (S := No) (.inr (by omega))) (fun _ _ => id)
  have K3 := K.trans (e3.kp (.inr (by omega)))
  have hz3 := e3.size
  clear e3 ho
  refine AtR_go rfl (AtG_append (tx := 31) rfl rfl ho3 ((B3.sl (m := 1) rfl (by omega)).src (T := 31) rfl) rfl (by omega) (by simp only [maxLen]; omega) (by omega) fun a' cap' w4 ho4 k4 hfr4 => ?_)
  have hzK := K3.size
  (refine s_as ?_; refine AtR_nil (At_inBlock ?_))
  refine again (i + 1, (a', cap')) _ _ ⟨rfl, rfl, trivial⟩ ⟨hlt, own_eq ho4 ?_ rfl, ?_, K3.trans' k4 (fun j hj => .inr (hf j hj))⟩ (by simp only; omega)
  ·rw [List.replicate_succ']
   simp [ints, bs8]
   rfl
  ·rcases hfr4 with rfl | ⟨b', rfl, hb'⟩
   ·exact hf
   ·intro j hj; simp [blkOf] at hj; omega
 have hie : i = gapN n := by omega
 clear again
 have he : ((n : Int) + ((i + 1 : Nat) : Int)) % 128 = 112 := by rw [hie]; unfold gapN; omega
 (refine At_seq (At_seq (At_region ?_)); refine s_mv ?_; refine s_mv ?_; refine s_ln ?_; refine s_ad ?_; refine s_rm ?_; refine s_neq ?_; refine AtR_nil ?_; refine At_cond_f rfl ?_; refine At_exit rfl ?_; refine At_seq (At_region ?_); refine s_mv ?_; refine s_cv ?_)
 rw [wrap_nat]
 refine s_val (x_quo rfl rfl (by omega)) ?_
 rw [quo61]
 (refine s_mv ?_; refine s_cv ?_)
 rw [wrap_nat]
 refine s_val (x_mulW (b := 8) rfl rfl) ?_
 rw [mul8]
 (refine s_as ?_; refine s_as ?_; refine AtR_nil (At_seq (At_seq (At_region ?_))); refine s_as ?_; refine AtR_nil (At_block ?_))
 refine At_while (fun s : Nat × (Option Addr × Nat) => [(3, .slice s.2.1 ((i + 1) + s.1) s.2.2), (4, .int .u64 (uw (BitVec.ofNat 64 n >>> 61))), (5, .int .u64 (uw (BitVec.ofNat 64 n <<< 3))), (6, .int .i64 (7 - (s.1 : Int)))])
  (fun s w' => s.1 ≤ 8 ∧ Own w' 5 1 s.2.1 ((i + 1) + s.1) s.2.2 (ints .u8 (bs8 (((128 : UInt8) :: List.replicate i 0) ++ hiB (BitVec.ofNat 64 n >>> 61) s.1))) ∧ (∀ j, blkOf s.2.1 j → w.heap.size ≤ j) ∧ Kp No w w') (fun s => 8 - s.1) (0, (a, cap)) ⟨rfl, rfl, rfl, rfl, trivial⟩
  ⟨by omega, own_eq ho (by simp [hiB]) rfl, hf, K⟩ ?_
 clear ho hf K
 rintro ⟨d, ⟨a2, cap2⟩⟩ w5 junk ⟨hd, ho, hf, K⟩ again
 simp only at hd ho hf again ⊢
 by_cases hlt : d < 8
 ·(refine At_seq (At_seq (At_region ?_)); refine s_mv ?_; refine s_geq ?_; refine AtR_nil ?_; refine At_cond_t rfl ?_; refine At_skip (At_seq (At_block (At_region ?_))); refine s_mv ?_; refine s_mv ?_; refine s_mv ?_; refine s_ml ?_; refine s_hr ?_; refine s_wb ?_)
  refine AtR_go rfl (AtG_buildSlice1 (ops := [_]) rfl rfl (by omega) rfl rfl rfl fun b3 w3 hb3 e3 => ?_)
  have B3 : Blk w3 b3 5 (0, 0) (ints .u8 (bs8 [lowb ((BitVec.ofNat 64 n >>> 61) >>> (8 * (7 - (d : Int))).toNat)])) := e3.blk
  rw [show (8 * (7 - (d : Int))).toNat = 8 * (7 - d) by omega] at B3
  have ho3 := ho.kp (e3.kp (S := No) (.inr (by omega))) (fun _ _ => id)
  have K3 := K.trans (e3.kp (.inr (by omega)))
  clear e3 ho
  refine AtR_go rfl (AtG_append (tx := 31) rfl rfl ho3 ((B3.sl (m := 1) rfl (by omega)).src (T := 31) rfl) rfl (by omega) (by simp only [maxLen]; omega) (by omega) fun a' cap' w4 ho4 k4 hfr4 => ?_)
  have hzK := K3.size
  (refine s_as ?_; refine AtR_nil (At_inBlock (At_region ?_)); refine s_mv ?_; refine s_sb ?_; refine s_as ?_; refine AtR_nil ?_)
  refine again (d + 1, (a', cap')) _ _ ⟨rfl, rfl, rfl, ?_, trivial⟩ ⟨hlt, own_eq ho4 ?_ rfl, ?_, K3.trans' k4 (fun j hj => .inr (hf j hj))⟩ (by simp only; omega)
  ·show Value.int .i64 (7 - (d : Int) - 1) = .int .i64 (7 - ((d + 1 : Nat) : Int))
   congr 1; omega
  ·rw [hiB_snoc (BitVec.ofNat 64 n >>> 61) d]
   simp [ints, bs8]
  ·rcases hfr4 with rfl | ⟨b', rfl, hb'⟩
   ·exact hf
   ·intro j hj; simp [blkOf] at hj; omega
 have hd8 : d = 8 := by omega
 subst hd8
 clear again
 (refine At_seq (At_seq (At_region ?_)); refine s_mv ?_; refine s_geq ?_; refine AtR_nil ?_; refine At_cond_f rfl ?_; refine At_exit rfl ?_; refine At_seq (At_seq (At_region ?_)); refine s_as ?_; refine AtR_nil (At_block ?_))
 refine At_while (fun s : Nat × (Option Addr × Nat) => [(3, .slice s.2.1 ((i + 1 + 8) + s.1) s.2.2), (5, .int .u64 (uw (BitVec.ofNat 64 n <<< 3))), (7, .int .i64 (7 - (s.1 : Int)))])
  (fun s w' => s.1 ≤ 8 ∧ Own w' 5 1 s.2.1 ((i + 1 + 8) + s.1) s.2.2 (ints .u8 (bs8 (((128 : UInt8) :: List.replicate i 0 ++ hiB (BitVec.ofNat 64 n >>> 61) 8) ++ hiB (BitVec.ofNat 64 n <<< 3) s.1))) ∧ (∀ j, blkOf s.2.1 j → w.heap.size ≤ j) ∧ Kp No w w') (fun s => 8 - s.1) (0, (a2, cap2)) ⟨rfl, rfl, rfl, trivial⟩
  ⟨by omega, own_eq ho (by simp [hiB]) rfl, hf, K⟩ ?_
 clear ho hf K
 rintro ⟨d, ⟨a6, cap6⟩⟩ w6 junk ⟨hd, ho, hf, K⟩ again
 simp only at hd ho hf again ⊢
 by_cases hlt : d < 8
 ·(refine At_seq (At_seq (At_region ?_)); refine s_mv ?_; refine s_geq ?_; refine AtR_nil ?_; refine At_cond_t rfl ?_; refine At_skip (At_seq (At_block (At_region ?_))); refine s_mv ?_; refine s_mv ?_; refine s_mv ?_; refine s_ml ?_; refine s_hr ?_; refine s_wb ?_)
  refine AtR_go rfl (AtG_buildSlice1 (ops := [_]) rfl rfl (by omega) rfl rfl rfl fun b3 w3 hb3 e3 => ?_)
  have B3 : Blk w3 b3 5 (0, 0) (ints .u8 (bs8 [lowb ((BitVec.ofNat 64 n <<< 3) >>> (8 * (7 - (d : Int))).toNat)])) := e3.blk
  rw [show (8 * (7 - (d : Int))).toNat = 8 * (7 - d) by omega] at B3
  have ho3 := ho.kp (e3.kp (S := No) (.inr (by omega))) (fun _ _ => id)
  have K3 := K.trans (e3.kp (.inr (by omega)))
  clear e3 ho
  refine AtR_go rfl (AtG_append (tx := 31) rfl rfl ho3 ((B3.sl (m := 1) rfl (by omega)).src (T := 31) rfl) rfl (by omega) (by simp only [maxLen]; omega) (by omega) fun a' cap' w4 ho4 k4 hfr4 => ?_)
  have hzK := K3.size
  (refine s_as ?_; refine AtR_nil (At_inBlock (At_region ?_)); refine s_mv ?_; refine s_sb ?_; refine s_as ?_; refine AtR_nil ?_)
  refine again (d + 1, (a', cap')) _ _ ⟨rfl, rfl, ?_, trivial⟩ ⟨hlt, own_eq ho4 ?_ rfl, ?_, K3.trans' k4 (fun j hj => .inr (hf j hj))⟩ (by simp only; omega)
  ·show Value.int .i64 (7 - (d : Int) - 1) = .int .i64 (7 - ((d + 1 : Nat) : Int))
   congr 1; omega
  ·rw [hiB_snoc (BitVec.ofNat 64 n <<< 3) d]
   simp [ints, bs8]
  ·rcases hfr4 with rfl | ⟨b', rfl, hb'⟩
   ·exact hf
   ·intro j hj; simp [blkOf] at hj; omega
 have hd8 : d = 8 := by omega
 subst hd8
 clear again
 (refine At_seq (At_seq (At_region ?_)); refine s_mv ?_; refine s_geq ?_; refine AtR_nil ?_; refine At_cond_f rfl ?_; refine At_exit rfl ?_; refine At_seq (At_region ?_); refine s_mv ?_; refine s_as ?_; refine AtR_nil ?_)
 have hel : i + 1 + 8 + 8 = (fillB n).length := by rw [fillB_length]; omega
 rw [hel]
 refine At_ret1 Tryd.func132 rfl (by conv => lhs; whnf) ?_
 refine ⟨_, _, rfl, own_eq ho ?_ hel, hf, K⟩
 subst hie
 rw [fillB, lenB_eq, List.append_assoc]
end Go.Proofs.YtfngacepjcdlnaaDoor
namespace Go.Proofs.YtfngacepjcdlnaaDoor
open Go Go.Kx
def schV (L : List (BitVec 64)) (t : Nat) : BitVec 64 := small (L.getD (t - 2) 0) 19 61 6 + L.getD (t - 7) 0 + small (L.getD (t - 15) 0) 1 8 7 + L.getD (t - 16) 0
def sch (l : List UInt8) : Nat → List (BitVec 64)
 | 0 => wordsOf l
 | i + 1 => sch l i ++ [schV (sch l i) (16 + i)]
theorem sch_length (l : List UInt8) : ∀ i, (sch l i).length = 16 + i
 | 0 => by simp [sch, wordsOf]
 | i + 1 => by rw [sch, List.length_append, sch_length l i]; rfl
theorem sch_get (l : List UInt8) {i j k : Nat} (hij : i ≤ j) (hk : k < 16 + i) : (sch l j).getD k 0 = (sch l i).getD k 0 := by
 induction j with
 | zero =>
   have : i = 0 := by omega
   subst this; rfl
 | succ j ih =>
  by_cases e : i = j + 1
  ·subst e; rfl
  ·rw [← ih (by omega), sch]
   have := sch_length l j
   simp only [List.getD]
   rw [List.getElem?_append_left (by omega)]
theorem iter_first (h : List (BitVec 64)) (l : List UInt8) : ∀ t, t ≤ 16 → (iter h l t).2 = wordsOf l
 | 0, _ => rfl
 | t + 1, ht => by rw [iter, nextC, if_pos (by omega)]; exact iter_first h l t (by omega)
theorem nextV_sch {c L : List (BitVec 64)} {i : Nat} (hc : ∀ k, i ≤ k → k < 16 + i → c.getD (k % 16) 0 = L.getD k 0) : nextV c (16 + i) = schV L (16 + i) := by
 have h1 := hc i (by omega) (by omega)
 have h2 := hc (14 + i) (by omega) (by omega)
 have h3 := hc (9 + i) (by omega) (by omega)
 have h4 := hc (1 + i) (by omega) (by omega)
 rw [nextV, schV, show (16 + i) % 16 = i % 16 by omega, show (16 + i + 14) % 16 = (14 + i) % 16 by omega, show (16 + i + 9) % 16 = (9 + i) % 16 by omega, show (16 + i + 1) % 16 = (1 + i) % 16 by omega,
  h1, h2, h3, h4, show 16 + i - 2 = 14 + i by omega, show 16 + i - 7 = 9 + i by omega, show 16 + i - 15 = 1 + i by omega, show 16 + i - 16 = i by omega]
 exact BitVec.add_comm _ _
theorem ring_sch (h : List (BitVec 64)) (l : List UInt8) (hh : h.length = 8) : ∀ i k, i ≤ k → k < 16 + i → (iter h l (16 + i)).2.getD (k % 16) 0 = (sch l i).getD k 0 := by
 intro i
 induction i with
 | zero =>
  intro k _ hk
  rw [iter_first h l 16 (by omega), Nat.mod_eq_of_lt (by omega)]; rfl
 | succ i ih =>
  intro k hk1 hk2
  have hl := (iter_length (l := l) hh (16 + i)).2
  have hs := sch_length l i
  have e1 : (iter h l (16 + (i + 1))).2 = (iter h l (16 + i)).2.set ((16 + i) % 16) (nextV (iter h l (16 + i)).2 (16 + i)) := by
   rw [show 16 + (i + 1) = (16 + i) + 1 by omega, iter]
   simp only [nextC]
   rw [if_neg (by omega)]
  rw [e1, getDw_set _ _ _ _ (by omega), sch]
  by_cases e : k = 16 + i
  ·subst e
   rw [if_pos rfl, nextV_sch ih]
   simp only [List.getD]
   rw [List.getElem?_append_right (by omega), hs]
   simp
  ·rw [if_neg (by omega), ih k (by omega) (by omega)]
   simp only [List.getD]
   rw [List.getElem?_append_left (by omega)]
theorem word_sch (h : List (BitVec 64)) (l : List UInt8) (hh : h.length = 8) (t : Nat) (ht : t < 80) : (nextC (iter h l t).2 t).getD (t % 16) 0 = (sch l 64).getD t 0 := by
 by_cases h16 : t < 16
 ·rw [nextC, if_pos h16, iter_first h l t (by omega), Nat.mod_eq_of_lt h16, sch_get l (i := 0) (by omega) (by omega)]; rfl
 ·obtain ⟨i, rfl⟩ : ∃ i, t = 16 + i := ⟨t - 16, by omega⟩
  have hl := (iter_length (l := l) hh (16 + i)).2
  have hs := sch_length l i
  rw [nextC, if_neg h16, getDw_set _ _ _ _ (by omega), if_pos rfl, nextV_sch (ring_sch h l hh i), sch_get l (i := i + 1) (by omega) (by omega), sch]
  simp only [List.getD]
  rw [List.getElem?_append_right (by omega), hs]
  simp
theorem ch_eq (e f g : BitVec 64) : (e &&& f) ^^^ (~~~e &&& g) = g ^^^ (e &&& (f ^^^ g)) := by
 apply BitVec.eq_of_getLsbD_eq
 intro i hi
 simp only [BitVec.getLsbD_xor, BitVec.getLsbD_and, BitVec.getLsbD_not]
 cases e.getLsbD i <;> cases f.getLsbD i <;> cases g.getLsbD i <;> simp [hi]
theorem maj_eq (a b c : BitVec 64) : (a &&& b) ^^^ (a &&& c) ^^^ (b &&& c) = (a &&& b) ||| ((a ||| b) &&& c) := by
 apply BitVec.eq_of_getLsbD_eq
 intro i hi
 simp only [BitVec.getLsbD_xor, BitVec.getLsbD_and, BitVec.getLsbD_or]
 cases a.getLsbD i <;> cases b.getLsbD i <;> cases c.getLsbD i <;> rfl
end Go.Proofs.YtfngacepjcdlnaaDoor
namespace Go.Kx
open Go
section
variable {P : Program} {n : Nat} {env : Env} {w : World} {dst : Option Tmp} {ty : TypeId} {pos : String} {aft : Array Edge} {g : Option (Nat × Bool)}
theorem x_notW {x : Operand} {T : TypeId} {a : BitVec 64} (hx : ev n env x = .int .u64 (uw a)) :
  Run P n env ⟨dst, .unOp .xor T x, ty, pos, aft, g⟩ w (.ok (.value (.int .u64 (uw (~~~a)))) w) := by
 have e : IntKind.u64.wrap ((BitVec.ofInt 64 IntKind.u64.max ^^^ a).toNat : Int) = uw (~~~a) := by
  have : (BitVec.ofInt 64 IntKind.u64.max) = BitVec.allOnes 64 := by decide
  rw [this, BitVec.allOnes_xor]; exact wrap_uw _
 unfold Run
 simp only [execOp, hx]
 simp only [Op.unary, Op.intBits, IntKind.signed, IntKind.bits, ofInt_uw]
 simp
 exact e
end
end Go.Kx
namespace Go.Proofs.YtfngacepjcdlnaaDoor
open Go Go.Kx
theorem kSha_vals : [.int .u64 4794697086780616226, .int .u64 8158064640168781261, .int .u64 13096744586834688815, .int .u64 16840607885511220156, .int .u64 4131703408338449720, .int .u64 6480981068601479193, .int .u64 10538285296894168987, .int .u64 12329834152419229976, .int .u64 15566598209576043074, .int .u64 1334009975649890238, .int .u64 2608012711638119052, .int .u64 6128411473006802146, .int .u64 8268148722764581231, .int .u64 9286055187155687089, .int .u64 11230858885718282805, .int .u64 13951009754708518548, .int .u64 16472876342353939154, .int .u64 17275323862435702243, .int .u64 1135362057144423861, .int .u64 2597628984639134821, .int .u64 3308224258029322869, .int .u64 5365058923640841347, .int .u64 6679025012923562964, .int .u64 8573033837759648693, .int .u64 10970295158949994411, .int .u64 12119686244451234320, .int .u64 12683024718118986047, .int .u64 13788192230050041572, .int .u64 14330467153632333762, .int .u64 15395433587784984357, .int .u64 489312712824947311, .int .u64 1452737877330783856, .int .u64 2861767655752347644, .int .u64 3322285676063803686, .int .u64 5560940570517711597, .int .u64 5996557281743188959, .int .u64 7280758554555802590, .int .u64 8532644243296465576, .int .u64 9350256976987008742, .int .u64 10552545826968843579, .int .u64 11727347734174303076, .int .u64 12113106623233404929, .int .u64 14000437183269869457, .int .u64 14369950271660146224, .int .u64 15101387698204529176, .int .u64 15463397548674623760, .int .u64 17586052441742319658, .int .u64 1182934255886127544, .int .u64 1847814050463011016, .int .u64 2177327727835720531, .int .u64 2830643537854262169, .int .u64 3796741975233480872, .int .u64 4115178125766777443, .int .u64 5681478168544905931, .int .u64 6601373596472566643, .int .u64 7507060721942968483, .int .u64 8399075790359081724, .int .u64 8693463985226723168, .int .u64 9568029438360202098, .int .u64 10144078919501101548, .int .u64 10430055236837252648, .int .u64 11840083180663258601, .int .u64 13761210420658862357, .int .u64 14299343276471374635, .int .u64 14566680578165727644, .int .u64 15097957966210449927, .int .u64 16922976911328602910, .int .u64 17689382322260857208, .int .u64 500013540394364858, .int .u64 748580250866718886, .int .u64 1242879168328830382, .int .u64 1977374033974150939, .int .u64 2944078676154940804, .int .u64 3659926193048069267, .int .u64 4368137639120453308, .int .u64 4836135668995329356, .int .u64 5532061633213252278, .int .u64 6448918945643986474, .int .u64 6902733635092675308, .int .u64 7801388544844847127] = ints .u64 (ws kSha) := by unfold kSha; kernel_rfl
theorem kSha_ops (n : Nat) (env : Env) : ([.const (.int .u64 4794697086780616226), .const (.int .u64 8158064640168781261), .const (.int .u64 13096744586834688815), .const (.int .u64 16840607885511220156), .const (.int .u64 4131703408338449720), .const (.int .u64 6480981068601479193), .const (.int .u64 10538285296894168987), .const (.int .u64 12329834152419229976), .const (.int .u64 15566598209576043074), .const (.int .u64 1334009975649890238), .const (.int .u64 2608012711638119052), .const (.int .u64 6128411473006802146), .const (.int .u64 8268148722764581231), .const (.int .u64 9286055187155687089), .const (.int .u64 11230858885718282805), .const (.int .u64 13951009754708518548), .const (.int .u64 16472876342353939154), .const (.int .u64 17275323862435702243), .const (.int .u64 1135362057144423861), .const (.int .u64 2597628984639134821), .const (.int .u64 3308224258029322869), .const (.int .u64 5365058923640841347), .const (.int .u64 6679025012923562964), .const (.int .u64 8573033837759648693), .const (.int .u64 10970295158949994411), .const (.int .u64 12119686244451234320), .const (.int .u64 12683024718118986047), .const (.int .u64 13788192230050041572), .const (.int .u64 14330467153632333762), .const (.int .u64 15395433587784984357), .const (.int .u64 489312712824947311), .const (.int .u64 1452737877330783856), .const (.int .u64 2861767655752347644), .const (.int .u64 3322285676063803686), .const (.int .u64 5560940570517711597), .const (.int .u64 5996557281743188959), .const (.int .u64 7280758554555802590), .const (.int .u64 8532644243296465576), .const (.int .u64 9350256976987008742), .const (.int .u64 10552545826968843579), .const (.int .u64 11727347734174303076), .const (.int .u64 12113106623233404929), .const (.int .u64 14000437183269869457), .const (.int .u64 14369950271660146224), .const (.int .u64 15101387698204529176), .const (.int .u64 15463397548674623760), .const (.int .u64 17586052441742319658), .const (.int .u64 1182934255886127544), .const (.int .u64 1847814050463011016), .const (.int .u64 2177327727835720531), .const (.int .u64 2830643537854262169), .const (.int .u64 3796741975233480872), .const (.int .u64 4115178125766777443), .const (.int .u64 5681478168544905931), .const (.int .u64 6601373596472566643), .const (.int .u64 7507060721942968483), .const (.int .u64 8399075790359081724), .const (.int .u64 8693463985226723168), .const (.int .u64 9568029438360202098), .const (.int .u64 10144078919501101548), .const (.int .u64 10430055236837252648), .const (.int .u64 11840083180663258601), .const (.int .u64 13761210420658862357), .const (.int .u64 14299343276471374635), .const (.int .u64 14566680578165727644), .const (.int .u64 15097957966210449927), .const (.int .u64 16922976911328602910), .const (.int .u64 17689382322260857208), .const (.int .u64 500013540394364858), .const (.int .u64 748580250866718886), .const (.int .u64 1242879168328830382), .const (.int .u64 1977374033974150939), .const (.int .u64 2944078676154940804), .const (.int .u64 3659926193048069267), .const (.int .u64 4368137639120453308), .const (.int .u64 4836135668995329356), .const (.int .u64 5532061633213252278), .const (.int .u64 6448918945643986474), .const (.int .u64 6902733635092675308), .const (.int .u64 7801388544844847127)] : List Operand).map (ev n env) = [.int .u64 4794697086780616226, .int .u64 8158064640168781261, .int .u64 13096744586834688815, .int .u64 16840607885511220156, .int .u64 4131703408338449720, .int .u64 6480981068601479193, .int .u64 10538285296894168987, .int .u64 12329834152419229976, .int .u64 15566598209576043074, .int .u64 1334009975649890238, .int .u64 2608012711638119052, .int .u64 6128411473006802146, .int .u64 8268148722764581231, .int .u64 9286055187155687089, .int .u64 11230858885718282805, .int .u64 13951009754708518548, .int .u64 16472876342353939154, .int .u64 17275323862435702243, .int .u64 1135362057144423861, .int .u64 2597628984639134821, .int .u64 3308224258029322869, .int .u64 5365058923640841347, .int .u64 6679025012923562964, .int .u64 8573033837759648693, .int .u64 10970295158949994411, .int .u64 12119686244451234320, .int .u64 12683024718118986047, .int .u64 13788192230050041572, .int .u64 14330467153632333762, .int .u64 15395433587784984357, .int .u64 489312712824947311, .int .u64 1452737877330783856, .int .u64 2861767655752347644, .int .u64 3322285676063803686, .int .u64 5560940570517711597, .int .u64 5996557281743188959, .int .u64 7280758554555802590, .int .u64 8532644243296465576, .int .u64 9350256976987008742, .int .u64 10552545826968843579, .int .u64 11727347734174303076, .int .u64 12113106623233404929, .int .u64 14000437183269869457, .int .u64 14369950271660146224, .int .u64 15101387698204529176, .int .u64 15463397548674623760, .int .u64 17586052441742319658, .int .u64 1182934255886127544, .int .u64 1847814050463011016, .int .u64 2177327727835720531, .int .u64 2830643537854262169, .int .u64 3796741975233480872, .int .u64 4115178125766777443, .int .u64 5681478168544905931, .int .u64 6601373596472566643, .int .u64 7507060721942968483, .int .u64 8399075790359081724, .int .u64 8693463985226723168, .int .u64 9568029438360202098, .int .u64 10144078919501101548, .int .u64 10430055236837252648, .int .u64 11840083180663258601, .int .u64 13761210420658862357, .int .u64 14299343276471374635, .int .u64 14566680578165727644, .int .u64 15097957966210449927, .int .u64 16922976911328602910, .int .u64 17689382322260857208, .int .u64 500013540394364858, .int .u64 748580250866718886, .int .u64 1242879168328830382, .int .u64 1977374033974150939, .int .u64 2944078676154940804, .int .u64 3659926193048069267, .int .u64 4368137639120453308, .int .u64 4836135668995329356, .int .u64 5532061633213252278, .int .u64 6448918945643986474, .int .u64 6902733635092675308, .int .u64 7801388544844847127] := rfl
set_option maxRecDepth 100000 in
theorem k_calls (w : World) : Calls Tryd.prog 144 #[] w
   fun e w' => ∃ b, e = .returned (.slice (some ⟨b, 0, none⟩) 80 80) ∧ Seg w' b 0 (ints .u64 (ws kSha)) ∧ b < w'.heap.size ∧ w.heap.size ≤ b ∧ Kp No w w' := by
 refine calls_at (n := 2) Tryd.func144 rfl rfl (by simp) ?_
 (refine At_seq (At_region ?_); refine s_as ?_; refine AtR_nil (At_seq ?_); refine At_region ?_)
 refine AtR_go rfl (AtG_buildSlice1 (ops := [.const (.int .u64 4794697086780616226), .const (.int .u64 8158064640168781261), .const (.int .u64 13096744586834688815), .const (.int .u64 16840607885511220156), .const (.int .u64 4131703408338449720), .const (.int .u64 6480981068601479193), .const (.int .u64 10538285296894168987), .const (.int .u64 12329834152419229976), .const (.int .u64 15566598209576043074), .const (.int .u64 1334009975649890238), .const (.int .u64 2608012711638119052), .const (.int .u64 6128411473006802146), .const (.int .u64 8268148722764581231), .const (.int .u64 9286055187155687089), .const (.int .u64 11230858885718282805), .const (.int .u64 13951009754708518548), .const (.int .u64 16472876342353939154), .const (.int .u64 17275323862435702243), .const (.int .u64 1135362057144423861), .const (.int .u64 2597628984639134821), .const (.int .u64 3308224258029322869), .const (.int .u64 5365058923640841347), .const (.int .u64 6679025012923562964), .const (.int .u64 8573033837759648693), .const (.int .u64 10970295158949994411), .const (.int .u64 12119686244451234320), .const (.int .u64 12683024718118986047), .const (.int .u64 13788192230050041572), .const (.int .u64 14330467153632333762), .const (.int .u64 15395433587784984357), .const (.int .u64 489312712824947311), .const (.int .u64 1452737877330783856), .const (.int .u64 2861767655752347644), .const (.int .u64 3322285676063803686), .const (.int .u64 5560940570517711597), .const (.int .u64 5996557281743188959), .const (.int .u64 7280758554555802590), .const (.int .u64 8532644243296465576), .const (.int .u64 9350256976987008742), .const (.int .u64 10552545826968843579), .const (.int .u64 11727347734174303076), .const (.int .u64 12113106623233404929), .const (.int .u64 14000437183269869457), .const (.int .u64 14369950271660146224), .const (.int .u64 15101387698204529176), .const (.int .u64 15463397548674623760), .const (.int .u64 17586052441742319658), .const (.int .u64 1182934255886127544), .const (.int .u64 1847814050463011016), .const (.int .u64 2177327727835720531), .const (.int .u64 2830643537854262169), .const (.int .u64 3796741975233480872), .const (.int .u64 4115178125766777443), .const (.int .u64 5681478168544905931), .const (.int .u64 6601373596472566643), .const (.int .u64 7507060721942968483), .const (.int .u64 8399075790359081724), .const (.int .u64 8693463985226723168), .const (.int .u64 9568029438360202098), .const (.int .u64 10144078919501101548), .const (.int .u64 10430055236837252648), .const (.int .u64 11840083180663258601), .const (.int .u64 13761210420658862357), .const (.int .u64 14299343276471374635), .const (.int .u64 14566680578165727644), .const (.int .u64 15097957966210449927), .const (.int .u64 16922976911328602910), .const (.int .u64 17689382322260857208), .const (.int .u64 500013540394364858), .const (.int .u64 748580250866718886), .const (.int .u64 1242879168328830382), .const (.int .u64 1977374033974150939), .const (.int .u64 2944078676154940804), .const (.int .u64 3659926193048069267), .const (.int .u64 4368137639120453308), .const (.int .u64 4836135668995329356), .const (.int .u64 5532061633213252278), .const (.int .u64 6448918945643986474), .const (.int .u64 6902733635092675308), .const (.int .u64 7801388544844847127)]) rfl rfl (by omega) rfl ((kSha_ops _ _).trans kSha_vals) (by rw [List.all_eq_true]; intro v hv; simp only [ints, List.mem_map] at hv; obtain ⟨x, _, rfl⟩ := hv; rfl) fun b w1 hb e1 => ?_)
 have B := e1.blk
 (refine s_as ?_; refine AtR_nil ?_)
 refine At_ret1 Tryd.func144 rfl (by conv => lhs; whnf) ?_
 exact ⟨b, rfl, fun j hj => by rw [Nat.zero_add, B.cell], B.lt, by omega, e1.kp (.inr (by omega))⟩
end Go.Proofs.YtfngacepjcdlnaaDoor
