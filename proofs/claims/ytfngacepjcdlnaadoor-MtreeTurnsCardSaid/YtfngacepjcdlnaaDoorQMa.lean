/- Trees: numbers as octets. | Trees of sectors, plainly: pointers, and how they lie in memory. Own work; nothing of a program is named here. | Trees: places and room. | A region that draws its order, where an operation that lays or turns something, and a call, may come up: both orders. Own work; nothing of a program is named here. | Trees: a pointer's octets. -/
import Derived.Test.YtfngacepjcdlnaaDoorQHe
import Derived.Test.YtfngacepjcdlnaaDoorQKu
import Derived.Test.YtfngacepjcdlnaaDoorQKb
set_option linter.unusedVariables false
namespace Go.Kx
open Go
section
variable {P : Program} {n : Nat} {env : Env} {w : World} {dst : Option Tmp} {ty : TypeId} {pos : String} {aft : Array Edge} {g : Option (Nat × Bool)}
theorem ofInt_nat (a : Nat) : BitVec.ofInt 64 (a : Int) = BitVec.ofNat 64 a := by rw [BitVec.ofInt_natCast]
theorem x_orI {x y : Operand} {T T' : TypeId} {a b : Nat} (hx : ev n env x = .int .i64 (a : Int)) (hy : ev n env y = .int .i64 (b : Int)) (ha : a < 9223372036854775808) (hb : b < 9223372036854775808) :
  Run P n env ⟨dst, .binOp .or T x y T', ty, pos, aft, g⟩ w (.ok (.value (.int .i64 ((a ||| b : Nat) : Int))) w) := by
 have hlt : a ||| b < 2 ^ 63 := Nat.or_lt_two_pow ha hb
 have e : IntKind.i64.wrap (((BitVec.ofNat 64 a ||| BitVec.ofNat 64 b).toNat : Nat) : Int) = ((a ||| b : Nat) : Int) := by
  rw [BitVec.toNat_or, BitVec.toNat_ofNat, BitVec.toNat_ofNat, Nat.mod_eq_of_lt (by omega), Nat.mod_eq_of_lt (by omega)]
  exact i64_in (by omega) (by omega)
 unfold Run
 simp only [execOp, hx, hy]
 simp [eqGuard, binOp, Op.intBits, IntKind.bits, - BitVec.toNat_or]
 exact e
theorem x_shrI {x y : Operand} {T T' : TypeId} {a m : Nat} {k : IntKind} (hx : ev n env x = .int .i64 (a : Int)) (hy : ev n env y = .int k (m : Int)) (ha : a < 9223372036854775808) (hm : m < 64) :
  Run P n env ⟨dst, .binOp .shr T x y T', ty, pos, aft, g⟩ w (.ok (.value (.int .i64 ((a / 2 ^ m : Nat) : Int))) w) := by
 have h0 : ¬ (m : Int) < 0 := by omega
 have e : (a : Int).fdiv (2 ^ min m 64) = ((a / 2 ^ m : Nat) : Int) := by
  rw [Int.fdiv_eq_ediv_of_nonneg _ (by exact_mod_cast Nat.zero_le _), Nat.min_eq_left (by omega)]
  have e1 : ((2 ^ m : Nat) : Int) = 2 ^ m := by rw [Int.natCast_pow]; rfl
  rw [← e1, ← Int.natCast_ediv]
 unfold Run
 simp only [execOp, hx, hy]
 simp [eqGuard, binOp]
theorem x_shlI {x y : Operand} {T T' : TypeId} {a m : Nat} {k : IntKind} (hx : ev n env x = .int .i64 (a : Int)) (hy : ev n env y = .int k (m : Int)) (hm : m < 64) (ha : a * 2 ^ m < 9223372036854775808) :
  Run P n env ⟨dst, .binOp .shl T x y T', ty, pos, aft, g⟩ w (.ok (.value (.int .i64 ((a * 2 ^ m : Nat) : Int))) w) := by
 have h0 : ¬ (m : Int) < 0 := by omega
 have e : IntKind.i64.wrap ((a : Int) * 2 ^ min m 64) = ((a * 2 ^ m : Nat) : Int) := by
  have e1 : ((2 ^ m : Nat) : Int) = 2 ^ m := by rw [Int.natCast_pow]; rfl
  rw [Nat.min_eq_left (by omega), ← e1, ← Int.natCast_mul]
  exact i64_in (by omega) (by omega)
 unfold Run
 simp only [execOp, hx, hy]
 simp [eqGuard, binOp]
 rw [Nat.min_eq_left (by omega)] at e
 simpa using e
theorem x_orB {x y : Operand} {T T' : TypeId} {a b : UInt8} (hx : ev n env x = .int .u8 (ub a)) (hy : ev n env y = .int .u8 (ub b)) :
  Run P n env ⟨dst, .binOp .or T x y T', ty, pos, aft, g⟩ w (.ok (.value (.int .u8 (ub (a ||| b)))) w) := by
 have e := wrap_ub (a ||| b)
 rw [show (a ||| b).toBitVec = a.toBitVec ||| b.toBitVec from rfl] at e
 unfold Run
 simp only [execOp, hx, hy]
 simp [eqGuard, binOp, Op.intBits, IntKind.bits, ofInt_ub, - BitVec.toNat_or, - UInt8.toNat_toBitVec]
 exact e
end
end Go.Kx
namespace Go.Proofs.YtfngacepjcdlnaaDoor
open Go Go.Kx Go.Kr
section
variable {P : Program} {n : Nat} {env : Env} {w : World} {dst : Option Tmp} {ty : TypeId} {pos : String} {aft : Array Edge} {g : Option (Nat × Bool)}
theorem x_conv_i8 {S T : TypeId} {x : Operand} {ks : IntKind} {k : IntKind} {a : Nat} [hS : TU P S (.int ks)] [hT : TU P T (.int .u8)] (hx : ev n env x = .int k (a : Int)) :
  Run P n env ⟨dst, .convert S T x, ty, pos, aft, g⟩ w (.ok (.value (.int .u8 (ub (UInt8.ofNat a)))) w) := by
 rw [← wrap_u8n]
 exact x_convert hx
theorem x_conv_8i {S T : TypeId} {x : Operand} {ks : IntKind} {k : IntKind} {a : UInt8} [hS : TU P S (.int ks)] [hT : TU P T (.int .i64)] (hx : ev n env x = .int k (ub a)) :
  Run P n env ⟨dst, .convert S T x, ty, pos, aft, g⟩ w (.ok (.value (.int .i64 (ub a))) w) := by
 have h := x_convert (P := P) (w := w) (dst := dst) (ty := ty) (pos := pos) (aft := aft) (g := g) (S := S) (T := T) hx
 have hb := ub_bd a
 rwa [i64_in (by omega) (by omega)] at h
end
def layN (n size : Nat) : List UInt8 := (List.range size).map fun p => UInt8.ofNat (n / 2 ^ (8 * (size - 1 - p)))
def layTo (n size i : Nat) : List UInt8 := (List.range size).map fun p => if size - i ≤ p then UInt8.ofNat (n / 2 ^ (8 * (size - 1 - p))) else 0
theorem layN_length (n size : Nat) : (layN n size).length = size := by simp [layN]
theorem layTo_length (n size i : Nat) : (layTo n size i).length = size := by simp [layTo]
theorem layTo_zero (n size : Nat) : layTo n size 0 = List.replicate size 0 := by
 apply List.ext_getElem (by simp [layTo])
 intro p h1 h2
 have hp : p < size := by simpa using h2
 simp [layTo, show ¬ size ≤ p by omega]
theorem layTo_all (n size : Nat) : layTo n size size = layN n size := by
 apply List.ext_getElem (by simp [layTo, layN])
 intro p h1 h2
 simp [layTo, layN]
theorem layTo_step (n size i : Nat) (h : i < size) : (layTo n size i).set (size - 1 - i) (UInt8.ofNat (n / 2 ^ (8 * i))) = layTo n size (i + 1) := by
 apply List.ext_getElem (by simp [layTo])
 intro p h1 h2
 have hp : p < size := by simpa [layTo] using h2
 rw [List.getElem_set]
 simp only [layTo, List.getElem_map, List.getElem_range]
 by_cases e : size - 1 - i = p
 ·rw [if_pos e, if_pos (by omega), show size - 1 - p = i by omega]
 ·rw [if_neg e]
  by_cases e2 : size - i ≤ p
  ·rw [if_pos e2, if_pos (by omega)]
  ·rw [if_neg e2, if_neg (by omega)]
set_option maxRecDepth 100000 in
theorem lay_calls (m size : Nat) (w : World) (hm : m < 9223372036854775808) (hs : size ≤ 8) :
  Calls Tryd.prog 78 #[.int .i64 (m : Int), .int .i64 (size : Int)] w
   fun e w' => ∃ a' cap', e = .returned (.slice a' size cap') ∧ Own w' 5 1 a' size cap' (ints .u8 (bs8 (layN m size))) ∧ (∀ j, blkOf a' j → w.heap.size ≤ j) ∧ Kp No w w' := by
 refine calls_at (n := 29) Tryd.func78 rfl rfl (by simp) ?_
 (refine At_seq (At_region ?_); refine s_as ?_; refine AtR_nil (At_seq (At_region ?_)); refine s_mv ?_)
 refine s_val (x_min rfl rfl) ?_
 refine s_val (x_max rfl rfl) ?_
 rw [show max 0 (min (size : Int) 8) = (size : Int) by omega]
 (refine s_as ?_; refine AtR_nil (At_seq (At_region ?_)); refine s_mv ?_)
 refine AtR_go rfl (AtG_make1 (z := .int .u8 0) rfl rfl (by omega) (by omega) rfl (by omega) (by omega) fun b w1 hb e1 => ?_)
 have B1 : Blk w1 b 5 (0, 0) (ints .u8 (bs8 (layTo m size 0))) := by
  have := e1.blk
  rw [layTo_zero]
  simpa [ints, bs8, ub] using this
 have K1 : Kp No w w1 := e1.kp (.inr (by omega))
 clear e1
 (refine s_as ?_; refine AtR_nil (At_seq (At_seq (At_region ?_))); refine s_mv ?_; refine s_mv ?_; refine AtR_nil (At_block ?_))
 refine At_while (fun i : Nat => [(0, .int .i64 (m : Int)), (1, .int .i64 (size : Int)), (5, .slice (some ⟨b, 0, none⟩) size size), (12, .int .i64 (size : Int)), (13, .int .i64 (i : Int))])
  (fun i w' => i ≤ size ∧ Blk w' b 5 (0, 0) (ints .u8 (bs8 (layTo m size i))) ∧ Kp (fun j => j = b) w1 w') (fun i => size - i) 0 ⟨rfl, rfl, rfl, rfl, rfl, trivial⟩ ⟨by omega, B1, Kp.refl _ _⟩ ?_
 clear B1
 rintro i w2 junk ⟨hi, B2, K2⟩ again
 have hlen := layTo_length m size i
 by_cases hlt : i < size
 ·(refine At_seq (At_region ?_); refine s_lss ?_; refine AtR_nil (At_seq ?_); refine At_cond_t rfl ?_; refine At_skip (At_seq (At_block (At_seq (At_region ?_)))); refine s_mv ?_; refine s_as ?_; refine AtR_nil (At_region ?_); refine s_mv ?_; refine s_mv ?_; refine s_sb ?_; refine s_mv ?_; refine s_sb ?_; refine s_mv ?_; refine s_mv ?_; refine s_ml ?_)
  refine s_val (x_shrI (m := 8 * i) rfl rfl hm (by omega)) ?_
  refine s_val (x_conv_i8 rfl) ?_
  (refine s_ia ?_)
  refine AtR_go rfl (G_skip (r_store_bb rfl rfl B2 (by omega) rfl) fun w3 e3 => ?_)
  have B3 : Blk w3 b 5 (0, 0) (ints .u8 (bs8 (layTo m size (i + 1)))) := by
   have := e3.blk
   rw [show ((size : Int) - 1 - (i : Int)).toNat = size - 1 - i by omega, layTo_step _ _ _ hlt] at this
   exact this
  (refine AtR_nil (At_inBlock (At_region ?_)); refine s_ad ?_; refine s_mv ?_; refine AtR_nil ?_)
  exact again (i + 1) _ _ ⟨rfl, rfl, rfl, rfl, rfl, trivial⟩ ⟨hlt, B3, K2.trans (e3.kp (.inl rfl))⟩ (by omega)
 have hie : i = size := by omega
 clear again
 subst hie
 (refine At_seq (At_region ?_); refine s_lss ?_; refine AtR_nil (At_seq ?_); refine At_cond_f rfl ?_; refine At_exit rfl ?_; refine At_seq (At_region ?_); refine s_mv ?_; refine s_as ?_; refine AtR_nil ?_)
 refine At_ret1 Tryd.func78 rfl (by conv => lhs; whnf) ?_
 rw [layTo_all] at B2
 exact ⟨_, _, rfl, Blk.own B2 (by simp [layN_length]) (by simp only [maxLen]; omega), fun j hj => by simp [blkOf] at hj; omega, K1.trans' K2 (by rintro j rfl; right; omega)⟩
def numB (l : List UInt8) : Nat := l.foldl (fun a c => a * 256 + c.toNat) 0
theorem numB_snoc (l : List UInt8) (i : Nat) (h : i < l.length) : numB (l.take (i + 1)) = numB (l.take i) * 256 + (l.getD i 0).toNat := by
 rw [List.take_succ_eq_append_getElem h, numB, List.foldl_append]
 simp [numB, List.getD, h]
theorem numB_lt (l : List UInt8) : ∀ i, i ≤ l.length → numB (l.take i) < 256 ^ i
 | 0, _ => by simp [numB]
 | i + 1, h => by
  have := numB_lt l i (by omega)
  have hc := (l.getD i 0).toNat_lt
  rw [numB_snoc l i (by omega), Nat.pow_succ]
  omega
theorem cat_or (a : Nat) (c : UInt8) : a * 2 ^ 8 ||| c.toNat = a * 256 + c.toNat := by
 rw [Nat.mul_comm a, ← Nat.two_pow_add_eq_or_of_lt c.toNat_lt, Nat.mul_comm]
set_option maxRecDepth 100000 in
theorem number_calls (l : List UInt8) (a : Option Addr) (len cap : Nat) (w : World) {D : Nat → Prop} (hs : SlE w .u8 a len cap (bs8 l) D) (hl : len ≤ 7) :
  Calls Tryd.prog 95 #[.slice a len cap] w fun e w' => e = .returned (.int .i64 (numB l : Nat)) ∧ w = w' := by
 have hll := hs.len_eq
 simp only [bs8_length] at hll
 subst hll
 refine calls_at (n := 19) Tryd.func95 rfl rfl (by simp) ?_
 (refine At_seq (At_region ?_); refine s_as ?_; refine AtR_nil (At_seq (At_region ?_)); refine s_as ?_; refine AtR_nil (At_seq (At_seq (At_region ?_))); refine s_mv ?_; refine s_ln ?_; refine s_mv ?_; refine AtR_nil (At_block ?_))
 refine At_while (fun i : Nat => [(3, .int .i64 (numB (l.take i) : Nat)), (6, .slice a l.length cap), (7, .int .i64 (l.length : Int)), (8, .int .i64 (i : Int))])
  (fun i w' => i ≤ l.length ∧ w = w') (fun i => l.length - i) 0 ⟨rfl, rfl, rfl, rfl, trivial⟩ ⟨by omega, rfl⟩ ?_
 rintro i w2 junk ⟨hi, rfl⟩ again
 have hb := numB_lt l i hi
 by_cases hlt : i < l.length
 ·rcases hs.mem with h0 | ⟨b, off, rfl, _, _, hseg⟩
  ·have := hs.le; omega
  have h7 : 256 ^ i ≤ 256 ^ 6 := Nat.pow_le_pow_right (by omega) (by omega)
  have hc := (l.getD i 0).toNat_lt
  (refine At_seq (At_region ?_); refine s_lss ?_; refine AtR_nil (At_seq ?_); refine At_cond_t rfl ?_; refine At_skip (At_seq (At_block (At_seq (At_region ?_)))); refine s_ia ?_; refine s_ldw ?_; refine s_as ?_; refine AtR_nil (At_region ?_); refine s_mv ?_)
  refine s_val (x_shlI (m := 8) rfl rfl (by omega) (by omega)) ?_
  (refine s_mv ?_; refine s_cv ?_)
  have hw : IntKind.i64.wrap (ub (l.getD i 0)) = ((l.getD i 0).toNat : Int) := i64_in (by unfold ub; omega) (by unfold ub; omega)
  rw [hw]
  refine s_val (x_orI (b := (l.getD i 0).toNat) rfl rfl (by omega) (by omega)) ?_
  rw [cat_or, ← numB_snoc l i hlt]
  (refine s_as ?_; refine AtR_nil (At_inBlock (At_region ?_)); refine s_ad ?_; refine s_mv ?_; refine AtR_nil ?_)
  exact again (i + 1) _ _ ⟨rfl, rfl, rfl, rfl, trivial⟩ ⟨hlt, rfl⟩ (by omega)
 have hie : i = l.length := by omega
 clear again
 subst hie
 rw [List.take_length]
 (refine At_seq (At_region ?_); refine s_lss ?_; refine AtR_nil (At_seq ?_); refine At_cond_f rfl ?_; refine At_exit rfl ?_; refine At_seq (At_region ?_); refine s_mv ?_; refine s_as ?_; refine AtR_nil ?_)
 refine At_ret1 Tryd.func95 rfl (by conv => lhs; whnf) ?_
 exact ⟨rfl, rfl⟩
def diffB (l m : List UInt8) (i : Nat) : UInt8 := ((List.range i).map fun p => l.getD p 0 ^^^ m.getD p 0).foldl (· ||| ·) 0
theorem diffB_step (l m : List UInt8) (i : Nat) : diffB l m (i + 1) = diffB l m i ||| (l.getD i 0 ^^^ m.getD i 0) := by
 unfold diffB
 rw [List.range_succ, List.map_append, List.foldl_append]
 rfl
theorem diffB_zero (l m : List UInt8) : ∀ i, diffB l m i = 0 ↔ ∀ p < i, l.getD p 0 = m.getD p 0
 | 0 => by simp [diffB]
 | i + 1 => by
  rw [diffB_step, UInt8.or_eq_zero_iff, diffB_zero l m i, UInt8.xor_eq_zero_iff]
  constructor
  ·rintro ⟨h1, h2⟩ p hp
   rcases Nat.lt_succ_iff_lt_or_eq.1 hp with h | rfl
   ·exact h1 p h
   ·exact h2
  ·exact fun h => ⟨fun p hp => h p (by omega), h i (by omega)⟩
set_option maxRecDepth 100000 in
theorem same8_calls (l m : List UInt8) (a : Option Addr) (len cap : Nat) (a' : Option Addr) (cap' : Nat) (w : World) {D D' : Nat → Prop} (hs : SlE w .u8 a len cap (bs8 l) D) (hs' : SlE w .u8 a' len cap' (bs8 m) D') :
  Calls Tryd.prog 111 #[.slice a len cap, .slice a' len cap'] w fun e w' => e = .returned (.bool (decide (l = m))) ∧ w = w' := by
 have hll := hs.len_eq
 have hml := hs'.len_eq
 simp only [bs8_length] at hll hml
 subst hll
 have hmx := hs.max
 have hle := hs.le
 refine calls_at (n := 46) Tryd.func111 rfl rfl (by simp) ?_
 (refine At_seq (At_region ?_); refine s_as ?_; refine AtR_nil (At_seq (At_region ?_)); refine s_as ?_; refine AtR_nil (At_seq (At_seq (At_region ?_))); refine s_mv ?_; refine s_ln ?_; refine s_mv ?_; refine s_ln ?_; refine s_neq ?_; refine AtR_nil ?_; refine At_cond_f rfl ?_; refine At_skip (At_seq (At_seq (At_region ?_))); refine s_mv ?_; refine s_ln ?_; refine s_mv ?_; refine s_ln ?_)
 refine s_val (x_max rfl rfl) ?_
 rw [show max (l.length : Int) (l.length : Int) = (l.length : Int) by omega]
 (refine s_mv ?_; refine AtR_nil (At_block ?_))
 refine At_while (fun i : Nat => [(0, .slice a l.length cap), (1, .slice a' l.length cap'), (5, .int .u8 (ub (diffB l m i))), (18, .int .i64 (l.length : Int)), (19, .int .i64 (i : Int))])
  (fun i w' => i ≤ l.length ∧ w = w') (fun i => l.length - i) 0 ⟨rfl, rfl, rfl, rfl, rfl, trivial⟩ ⟨by omega, rfl⟩ ?_
 rintro i w2 junk ⟨hi, rfl⟩ again
 by_cases hlt : i < l.length
 ·rcases hs.mem with h0 | ⟨b, off, rfl, _, _, hseg⟩
  ·omega
  rcases hs'.mem with h0 | ⟨b', off', rfl, _, _, hseg'⟩
  ·have := hs'.le; omega
  have hlm : i < m.length := by omega
  (refine At_seq (At_region ?_); refine s_lss ?_; refine AtR_nil (At_seq ?_); refine At_cond_t rfl ?_; refine At_skip (At_seq (At_block (At_seq (At_region ?_)))); refine s_mv ?_; refine s_as ?_; refine AtR_nil (At_seq (At_region ?_)); refine s_as ?_; refine s_as ?_; refine AtR_nil (At_seq (At_seq (At_region ?_))); refine s_mv ?_; refine s_mv ?_; refine s_ln ?_; refine s_lss ?_; refine AtR_nil ?_; refine At_cond_t rfl ?_; refine At_region ?_; refine s_mv ?_; refine s_mv ?_; refine s_ia ?_; refine s_ldw ?_; refine s_as ?_; refine AtR_nil (At_seq (At_seq (At_region ?_))); refine s_mv ?_; refine s_mv ?_; refine s_ln ?_; refine s_lss ?_; refine AtR_nil ?_; refine At_cond_t rfl ?_; refine At_region ?_; refine s_mv ?_; refine s_mv ?_; refine s_ia ?_; refine s_ldw ?_; refine s_as ?_; refine AtR_nil (At_region ?_); refine s_mv ?_; refine s_mv ?_; refine s_mv ?_)
  refine s_val (x_xorB rfl rfl) ?_
  refine s_val (x_orB rfl rfl) ?_
  rw [← diffB_step]
  (refine s_as ?_; refine AtR_nil (At_inBlock (At_region ?_)); refine s_ad ?_; refine s_mv ?_; refine AtR_nil ?_)
  exact again (i + 1) _ _ ⟨rfl, rfl, rfl, rfl, rfl, trivial⟩ ⟨hlt, rfl⟩ (by omega)
 have hie : i = l.length := by omega
 clear again
 subst hie
 have hd : decide (ub (diffB l m l.length) = 0) = decide (l = m) := by
  apply decide_eq_decide.2
  have h1 : ub (diffB l m l.length) = 0 ↔ diffB l m l.length = 0 := by
   unfold ub
   constructor
   ·intro h; exact UInt8.toNat_inj.1 (by rw [show (0 : UInt8).toNat = 0 from rfl]; omega)
   ·intro h; rw [h]; rfl
  rw [h1, diffB_zero]
  constructor
  ·intro h
   apply List.ext_getElem (by omega)
   intro p h1 h2
   have := h p h1
   simpa [List.getD, h1, h2] using this
  ·rintro rfl p _; rfl
 (refine At_seq (At_region ?_); refine s_lss ?_; refine AtR_nil (At_seq ?_); refine At_cond_f rfl ?_; refine At_exit rfl ?_; refine At_seq (At_region ?_); refine s_mv ?_)
 refine s_val (x_eql rfl rfl) ?_
 rw [hd]
 (refine s_as ?_; refine AtR_nil ?_)
 refine At_ret1 Tryd.func111 rfl (by conv => lhs; whnf) ?_
 exact ⟨rfl, rfl⟩
end Go.Proofs.YtfngacepjcdlnaaDoor
namespace Go.Mt
open Go Go.Kx Go.Proofs.YtfngacepjcdlnaaDoor
structure Pr where
 sec : Nat
 mac : List UInt8
deriving DecidableEq
def Pr.zero : Pr := ⟨0, List.replicate 32 0⟩
instance : Inhabited Pr := ⟨Pr.zero⟩
structure Pr.wf (p : Pr) : Prop where
 mac : p.mac.length = 32
 sec : p.sec < 9223372036854775808
theorem zero_wf : Pr.zero.wf := ⟨rfl, by decide⟩
def prC (p : Pr) : List Value := .int .i64 (p.sec : Int) :: ints .u8 (bs8 p.mac)
def prI (p : Pr) : List Int := (p.sec : Int) :: bs8 p.mac
theorem prC_length {p : Pr} (h : p.wf) : (prC p).length = 33 := by simp [prC, h.mac]
def psC (ps : List Pr) : List Value := ps.flatMap prC
def spC (lv fst : Nat) : List Value := [.int .i64 (lv : Int), .int .i64 (fst : Int)]
def trC (p : Pr) (d : Int) : List Value := prC p ++ [.int .i64 d]
theorem psC_length : ∀ {ps : List Pr}, (∀ p ∈ ps, p.wf) → (psC ps).length = ps.length * 33
 | [], _ => rfl
 | p :: ps, h => by
  have e : psC (p :: ps) = prC p ++ psC ps := rfl
  rw [e, List.length_append, prC_length (h p (List.mem_cons_self ..)), psC_length (fun q hq => h q (List.mem_cons_of_mem _ hq)), List.length_cons]; omega
theorem psC_cons (p : Pr) (ps : List Pr) : psC (p :: ps) = prC p ++ psC ps := rfl
theorem psC_app (ps qs : List Pr) : psC (ps ++ qs) = psC ps ++ psC qs := by simp [psC]
theorem psC_get : ∀ {ps : List Pr} {i j : Nat} (sp : List Value) (h : i < ps.length) (_ : ∀ p ∈ ps, p.wf) (_ : j < 33), (psC ps ++ sp)[i * 33 + j]? = (prC (ps[i]))[j]?
 | [], i, j, sp, h, _, _ => by simp at h
 | p :: ps, 0, j, sp, h, hw, hj => by
  have hl := prC_length (hw p (List.mem_cons_self ..))
  rw [psC_cons, List.append_assoc, Nat.zero_mul, Nat.zero_add, List.getElem?_append_left (by omega)]
  rfl
 | p :: ps, i + 1, j, sp, h, hw, hj => by
  have hl := prC_length (hw p (List.mem_cons_self ..))
  rw [psC_cons, List.append_assoc, List.getElem?_append_right (by omega), show (i + 1) * 33 + j - (prC p).length = i * 33 + j by omega]
  exact psC_get sp (by simpa using h) (fun q hq => hw q (List.mem_cons_of_mem _ hq)) hj
theorem psC_lay : ∀ {ps : List Pr} {i : Nat} {q : Pr} (h : i < ps.length) (_ : ∀ p ∈ ps, p.wf) (_ : q.wf), lay (psC ps) (i * 33) (prC q) = psC (ps.set i q)
 | [], i, q, h, _, _ => by simp at h
 | p :: ps, 0, q, h, hw, hq => by
  have hl := prC_length (hw p (List.mem_cons_self ..))
  have hq' := prC_length hq
  rw [Nat.zero_mul, show (p :: ps).set 0 q = q :: ps from rfl, psC_cons, psC_cons]
  unfold lay
  rw [List.take_zero, List.nil_append, Nat.zero_add, List.drop_left' (by omega)]
 | p :: ps, i + 1, q, h, hw, hq => by
  have hl := prC_length (hw p (List.mem_cons_self ..))
  have hq' := prC_length hq
  have ih := psC_lay (ps := ps) (i := i) (q := q) (by simpa using h) (fun q hq => hw q (List.mem_cons_of_mem _ hq)) hq
  rw [show (p :: ps).set (i + 1) q = p :: ps.set i q from rfl, psC_cons, psC_cons, ← ih]
  unfold lay
  rw [show (i + 1) * 33 = (prC p).length + i * 33 by omega, List.take_append, List.take_of_length_le (by omega), Nat.add_sub_cancel_left, Nat.add_assoc, ← List.drop_drop, List.drop_left, List.append_assoc, List.append_assoc, List.append_assoc]
theorem wf_set {ps : List Pr} {i : Nat} {q : Pr} (hw : ∀ p ∈ ps, p.wf) (hq : q.wf) : ∀ p ∈ ps.set i q, p.wf := fun p hp => by
 rcases List.mem_or_eq_of_mem_set hp with h | rfl
 ·exact hw p h
 ·exact hq
end Go.Mt
namespace Go.Proofs.YtfngacepjcdlnaaDoor
open Go Go.Kx Go.Kr Go.Mt
def roomN (d : Nat) : Nat := 14 ^ d
def roomZ (d : Int) : Nat := if 0 ≤ d ∧ d ≤ 5 then roomN d.toNat else 0
theorem roomN_pos (d : Nat) : 0 < roomN d := Nat.pos_of_ne_zero (by simp [roomN])
theorem roomN_succ (d : Nat) : roomN (d + 1) = roomN d * 14 := Nat.pow_succ ..
theorem roomN_le {d : Nat} (h : d ≤ 5) : roomN d ≤ 537824 := Nat.pow_le_pow_right (n := 14) (by omega) h
theorem trC_length {p : Pr} (h : p.wf) (d : Int) : (trC p d).length = 34 := by simp [trC, prC_length h]
theorem trC_deep {p : Pr} (h : p.wf) (d : Int) : (trC p d)[33]? = some (.int .i64 d) := by
 unfold trC
 rw [List.getElem?_append_right (by rw [prC_length h]; omega), prC_length h]
 rfl
set_option maxRecDepth 100000 in
theorem right_calls (p : Pr) (d : Int) (w : World) (hp : p.wf) :
  Calls Tryd.prog 72 #[.agg (trC p d).toArray] w fun e w' => e = .returned (.bool (decide (0 ≤ d ∧ d ≤ 5))) ∧ Kp No w w' := by
 refine calls_at (n := 11) Tryd.func72 rfl rfl (by simp) ?_
 (refine At_seq (At_region ?_))
 refine AtR_go rfl (AtG_box rfl fun b w1 hb e1 => ?_)
 have B1 : Blk w1 b 40 (0, 0) (trC p d) := e1.blk
 have K1 : Kp No w w1 := e1.kp (.inr (by omega))
 clear e1
 (refine s_as ?_; refine AtR_nil (At_seq (At_region ?_)); refine s_fa ?_)
 refine s_val (x_load1 rfl B1 (trC_deep hp d)) ?_
 by_cases h0 : 0 ≤ d
 ·(refine s_geq ?_; refine s_mv ?_; refine s_yes rfl rfl rfl rfl ?_; refine g_fa ?_)
  refine s_yes rfl rfl rfl rfl (g_val (x_load1 rfl B1 (trC_deep hp d)) ?_)
  refine s_yes rfl rfl rfl rfl (g_val (x_leq rfl rfl) ?_)
  rw [show decide (d ≤ 5) = decide (0 ≤ d ∧ d ≤ 5) from decide_eq_decide.2 ⟨fun h => ⟨h0, h⟩, fun h => h.2⟩]
  (refine s_pt ?_; refine s_as ?_; refine AtR_nil ?_)
  refine At_ret1 Tryd.func72 rfl (by conv => lhs; whnf) ?_
  exact ⟨rfl, K1⟩
 ·(refine s_geq ?_; refine s_mv ?_; refine s_no rfl rfl rfl rfl ?_; refine s_no rfl rfl rfl rfl ?_; refine s_no rfl rfl rfl rfl ?_; refine s_pf ?_; refine s_as ?_; refine AtR_nil ?_)
  refine At_ret1 Tryd.func72 rfl (by conv => lhs; whnf) ?_
  exact ⟨by rw [decide_eq_false (fun h => h0 h.1)], K1⟩
theorem roomZ_nat {m : Nat} (h : m ≤ 5) : roomZ (m : Int) = roomN m := by unfold roomZ; rw [if_pos (by omega), Int.toNat_natCast]
theorem roomZ_no {d : Int} (h : d < 0 ∨ 5 < d) : roomZ d = 0 := by unfold roomZ; rw [if_neg (by omega)]
set_option maxRecDepth 100000 in
theorem room_calls (d : Int) (w : World) (hd : -9223372036854775808 ≤ d ∧ d ≤ 9223372036854775807) :
  Calls Tryd.prog 62 #[.int .i64 d] w fun e w' => e = .returned (.int .i64 (roomZ d : Nat)) ∧ w = w' := by
 refine calls_at (n := 17) Tryd.func62 rfl rfl (by simp) ?_
 by_cases h0 : d < 0
 ·(refine At_seq (At_region ?_); refine s_as ?_; refine AtR_nil (At_seq (At_seq (At_region ?_))); refine s_mv ?_; refine s_lss ?_; refine s_mv ?_; refine s_no rfl rfl rfl rfl ?_; refine s_no rfl rfl rfl rfl ?_; refine s_pt ?_; refine AtR_nil ?_; refine At_cond_t rfl ?_; refine At_seq (At_region ?_); refine s_as ?_; refine AtR_nil ?_)
  refine At_ret1 Tryd.func62 rfl (by conv => lhs; whnf) ?_
  exact ⟨by rw [roomZ_no (.inl h0)]; rfl, rfl⟩
 by_cases h5 : 5 < d
 ·(refine At_seq (At_region ?_); refine s_as ?_; refine AtR_nil (At_seq (At_seq (At_region ?_))); refine s_mv ?_; refine s_lss ?_; refine s_mv ?_; refine s_yes rfl rfl rfl rfl ?_; refine g_mv ?_; refine s_yes rfl rfl rfl rfl ?_; refine g_gtr ?_; refine s_pf ?_; refine AtR_nil ?_; refine At_cond_t rfl ?_; refine At_seq (At_region ?_); refine s_as ?_; refine AtR_nil ?_)
  refine At_ret1 Tryd.func62 rfl (by conv => lhs; whnf) ?_
  exact ⟨by rw [roomZ_no (.inr h5)]; rfl, rfl⟩
 obtain ⟨m, rfl⟩ : ∃ m : Nat, d = (m : Int) := ⟨d.toNat, by omega⟩
 (refine At_seq (At_region ?_); refine s_as ?_; refine AtR_nil (At_seq (At_seq (At_region ?_))); refine s_mv ?_; refine s_lss ?_; refine s_mv ?_; refine s_yes rfl rfl rfl rfl ?_; refine g_mv ?_; refine s_yes rfl rfl rfl rfl ?_; refine g_gtr ?_; refine s_pf ?_; refine AtR_nil ?_; refine At_cond_f rfl ?_; refine At_skip (At_seq (At_region ?_)); refine s_as ?_; refine AtR_nil (At_seq (At_seq (At_region ?_))); refine s_mv ?_; refine s_mv ?_; refine AtR_nil (At_block ?_))
 refine At_while (fun i : Nat => [(3, .int .i64 (roomN i : Nat)), (10, .int .i64 (m : Int)), (11, .int .i64 (i : Int))]) (fun i w' => i ≤ m ∧ w = w') (fun i => m - i) 0 ⟨rfl, rfl, rfl, trivial⟩ ⟨by omega, rfl⟩ ?_
 rintro i w1 junk ⟨hi, rfl⟩ again
 by_cases hlt : i < m
 ·have hb := roomN_le (d := i) (by omega)
  (refine At_seq (At_region ?_); refine s_lss ?_; refine AtR_nil (At_seq ?_); refine At_cond_t rfl ?_; refine At_skip (At_seq (At_block (At_region ?_))); refine s_mv ?_; refine s_ml ?_; refine s_as ?_; refine AtR_nil (At_inBlock (At_region ?_)); refine s_ad ?_; refine s_mv ?_; refine AtR_nil ?_)
  rw [show ((roomN i : Nat) : Int) * 14 = ((roomN (i + 1) : Nat) : Int) by rw [roomN_succ]; omega]
  skip
  exact again (i + 1) _ _ ⟨rfl, rfl, rfl, trivial⟩ ⟨hlt, rfl⟩ (by omega)
 have hie : i = m := by omega
 clear again
 subst hie
 (refine At_seq (At_region ?_); refine s_lss ?_; refine AtR_nil (At_seq ?_); refine At_cond_f rfl ?_; refine At_exit rfl ?_; refine At_seq (At_region ?_); refine s_mv ?_; refine s_as ?_; refine AtR_nil ?_)
 refine At_ret1 Tryd.func62 rfl (by conv => lhs; whnf) ?_
 exact ⟨by rw [roomZ_nat (by omega)], rfl⟩
set_option maxRecDepth 100000 in
theorem roomR_calls (d : Int) (w : World) (hd : -9223372036854775808 ≤ d ∧ d ≤ 9223372036854775807) :
  Calls Tryd.prog 54 #[.int .i64 d] w fun e w' => e = .returned (.int .i64 (roomZ d : Nat)) ∧ w = w' := by
 refine calls_at (n := 17) Tryd.func54 rfl rfl (by simp) ?_
 by_cases h0 : d < 0
 ·(refine At_seq (At_region ?_); refine s_as ?_; refine AtR_nil (At_seq (At_seq (At_region ?_))); refine s_mv ?_; refine s_lss ?_; refine s_mv ?_; refine s_no rfl rfl rfl rfl ?_; refine s_no rfl rfl rfl rfl ?_; refine s_pt ?_; refine AtR_nil ?_; refine At_cond_t rfl ?_; refine At_seq (At_region ?_); refine s_as ?_; refine AtR_nil ?_)
  refine At_ret1 Tryd.func54 rfl (by conv => lhs; whnf) ?_
  exact ⟨by rw [roomZ_no (.inl h0)]; rfl, rfl⟩
 by_cases h5 : 5 < d
 ·(refine At_seq (At_region ?_); refine s_as ?_; refine AtR_nil (At_seq (At_seq (At_region ?_))); refine s_mv ?_; refine s_lss ?_; refine s_mv ?_; refine s_yes rfl rfl rfl rfl ?_; refine g_mv ?_; refine s_yes rfl rfl rfl rfl ?_; refine g_gtr ?_; refine s_pf ?_; refine AtR_nil ?_; refine At_cond_t rfl ?_; refine At_seq (At_region ?_); refine s_as ?_; refine AtR_nil ?_)
  refine At_ret1 Tryd.func54 rfl (by conv => lhs; whnf) ?_
  exact ⟨by rw [roomZ_no (.inr h5)]; rfl, rfl⟩
 obtain ⟨m, rfl⟩ : ∃ m : Nat, d = (m : Int) := ⟨d.toNat, by omega⟩
 (refine At_seq (At_region ?_); refine s_as ?_; refine AtR_nil (At_seq (At_seq (At_region ?_))); refine s_mv ?_; refine s_lss ?_; refine s_mv ?_; refine s_yes rfl rfl rfl rfl ?_; refine g_mv ?_; refine s_yes rfl rfl rfl rfl ?_; refine g_gtr ?_; refine s_pf ?_; refine AtR_nil ?_; refine At_cond_f rfl ?_; refine At_skip (At_seq (At_region ?_)); refine s_as ?_; refine AtR_nil (At_seq ?_); refine At_block ?_)
 refine At_while (fun i : Nat => [(0, .int .i64 ((m : Int) - (i : Int))), (3, .int .i64 (roomN i : Nat))]) (fun i w' => i ≤ m ∧ w = w') (fun i => m - i) 0 ⟨by show Value.int _ _ = _; rw [Int.natCast_zero, Int.sub_zero], rfl, trivial⟩ ⟨by omega, rfl⟩ ?_
 rintro i w1 junk ⟨hi, rfl⟩ again
 by_cases hlt : i < m
 ·have hb := roomN_le (d := i) (by omega)
  (refine At_seq (At_seq (At_region ?_)); refine s_mv ?_; refine s_gtr ?_; refine AtR_nil ?_; refine At_cond_t rfl ?_; refine At_skip (At_seq (At_block (At_region ?_))); refine s_mv ?_; refine s_ml ?_; refine s_as ?_; refine AtR_nil (At_inBlock (At_region ?_)); refine s_mv ?_; refine s_sb ?_; refine s_as ?_; refine AtR_nil ?_)
  rw [show ((roomN i : Nat) : Int) * 14 = ((roomN (i + 1) : Nat) : Int) by rw [roomN_succ]; omega]
  skip
  rw [show (m : Int) - (i : Int) - 1 = (m : Int) - ((i + 1 : Nat) : Int) by omega]
  exact again (i + 1) _ _ ⟨rfl, rfl, trivial⟩ ⟨hlt, rfl⟩ (by omega)
 have hie : i = m := by omega
 clear again
 subst hie
 (refine At_seq (At_seq (At_region ?_)); refine s_mv ?_; refine s_gtr ?_; refine AtR_nil ?_; refine At_cond_f rfl ?_; refine At_exit rfl ?_; refine At_seq (At_region ?_); refine s_mv ?_; refine s_as ?_; refine AtR_nil ?_)
 refine At_ret1 Tryd.func54 rfl (by conv => lhs; whnf) ?_
 exact ⟨by rw [roomZ_nat (by omega)], rfl⟩
set_option maxRecDepth 100000 in
set_option maxHeartbeats 4000000 in
theorem holds_calls (L lv fst i : Nat) (w : World) (hL : L = lv + 1) (hl : lv < 5) (hi : i < 9223372036854775808) (hf : fst ≤ i) :
  Calls Tryd.prog 80 #[.agg (spC L fst).toArray, .int .i64 (i : Int)] w fun e w' => e = .returned (.int .i64 ((i - fst) / roomN lv : Nat)) ∧ Kp No w w' := by
 refine calls_at (n := 14) Tryd.func80 rfl rfl (by simp) ?_
 (refine At_seq (At_region ?_))
 refine AtR_go rfl (AtG_box rfl fun b w1 hb e1 => ?_)
 have B1 : Blk w1 b 153 (0, 0) [.int .i64 (L : Int), .int .i64 (fst : Int)] := e1.blk
 have K1 : Kp No w w1 := e1.kp (.inr (by omega))
 clear e1
 (refine s_as ?_; refine AtR_nil (At_seq ?_))
 have kd := Kp.drew (S := No) (w := w1)
 refine At_draw (fun w' => Blk w' b 153 (0, 0) [.int .i64 (L : Int), .int .i64 (fst : Int)]) rfl ?_
 have hS : Blk w1.drew b 153 (0, 0) [.int .i64 (L : Int), .int .i64 (fst : Int)] := B1.kp kd fun h => h
 (apply AtH_take 0 rfl (by decide +kernel) (by exact rfl); (focus (intro wx hx; skip; exact x_move (by conv => lhs; whnf))); (focus (exact hS)))
 (apply AtH_take 1 rfl (by decide +kernel) (by exact rfl); (focus (intro wx hx; skip; exact x_fieldAddrN rfl (by first | exact Nat.zero_add _ | exact Nat.add_zero _ | (simp only [Nat.reduceAdd] <;> rfl) | exact rfl))); (focus (exact hS)))
 (apply AtH_take 2 rfl (by decide +kernel) (by exact rfl); (focus (intro wx hx; skip; exact x_load1 rfl (by assumption) rfl)); (focus (exact hS)))
 (apply AtH_take 3 rfl (by decide +kernel) (by exact rfl); (focus (intro wx hx; skip; exact x_sub64 rfl rfl (by omega) (by omega))); (focus (exact hS)))
 (apply AtH_take 4 rfl (by decide +kernel) (by exact rfl); (focus (intro wx hx; skip; exact x_fieldAddrN rfl (by first | exact Nat.zero_add _ | exact Nat.add_zero _ | (simp only [Nat.reduceAdd] <;> rfl) | exact rfl))); (focus (exact hS)))
 (apply AtH_take 5 rfl (by decide +kernel) (by exact rfl); (focus (intro wx hx; skip; exact x_load1 rfl (by assumption) rfl)); (focus (exact hS)))
 (apply AtH_take 6 rfl (by decide +kernel) (by exact rfl); (focus (intro wx hx; skip; exact x_sub64 rfl rfl (by omega) (by omega))); (focus (exact hS)))
 rw [show (L : Int) - 1 = (lv : Int) by omega]
 refine AtH_call 7 rfl (by decide +kernel) (by exact rfl) x_call  (room_calls (lv : Int) _ (by omega)) ?_
 rintro _ _ ⟨rfl, rfl⟩
 refine ⟨_, rfl, hS, ?_⟩
 rw [roomZ_nat (by omega)]
 have hrp := roomN_pos lv
 rw [show (i : Int) - (fst : Int) = ((i - fst : Nat) : Int) by omega]
 refine AtH_take 8 rfl (by decide +kernel) (by exact rfl) (fun wx hx => x_quoI (a := ((i - fst : Nat) : Int)) (b := ((roomN lv : Nat) : Int)) rfl rfl (by omega) (by omega) (by omega)) hS ?_
 rw [show ((i - fst : Nat) : Int) / ((roomN lv : Nat) : Int) = (((i - fst) / roomN lv : Nat) : Int) from (Int.natCast_ediv _ _).symm]
 (apply AtH_take 9 rfl (by decide +kernel) (by exact rfl); (focus (intro wx hx; skip; exact x_assign (by conv => lhs; whnf))); (focus (exact hS)))
 refine AtH_done (by decide +kernel) ?_
 skip
 refine At_ret1 Tryd.func80 rfl (by conv => lhs; whnf) ?_
 exact ⟨rfl, K1.trans kd⟩
theorem built153 (a b : Int) : Tryd.prog.built 153 [(0, .int .i64 a), (1, .int .i64 b)] = some [Value.int .i64 a, Value.int .i64 b].toArray := by kernel_rfl
theorem child_lt {lv fst k : Nat} (hl : lv < 5) (hk : k < 14) (hf : fst + roomN (lv + 1) ≤ 537824) : fst + k * roomN lv ≤ 537824 ∧ k * roomN lv ≤ 537824 := by
 have h2 : k * roomN lv ≤ 13 * roomN lv := Nat.mul_le_mul_right _ (by omega)
 rw [roomN_succ] at hf
 omega
set_option maxRecDepth 100000 in
set_option maxHeartbeats 4000000 in
theorem child_calls (L lv fst k : Nat) (w : World) (hL : L = lv + 1) (hl : lv < 5) (hk : k < 14) (hf : fst + roomN (lv + 1) ≤ 537824) :
  Calls Tryd.prog 81 #[.agg (spC L fst).toArray, .int .i64 (k : Int)] w fun e w' => e = .returned (.agg (spC lv (fst + k * roomN lv)).toArray) ∧ Kp No w w' := by
 refine calls_at (n := 18) Tryd.func81 rfl rfl (by simp) ?_
 obtain ⟨hb1, hb2⟩ := child_lt hl hk hf
 (refine At_seq (At_region ?_))
 refine AtR_go rfl (AtG_box rfl fun b w1 hb e1 => ?_)
 have B1 : Blk w1 b 153 (0, 0) [.int .i64 (L : Int), .int .i64 (fst : Int)] := e1.blk
 have K1 : Kp No w w1 := e1.kp (.inr (by omega))
 clear e1
 skip
 refine AtR_go rfl (AtG_alloc fun b2 w2 hb2' e2 => ?_)
 have B2 : Blk w2 b2 153 (0, 0) z153 := e2.blk
 have k2 : Kp No w1 w2 := e2.kp (.inr (by omega))
 have hne : b ≠ b2 := by have := B1.lt; omega
 have z1 := K1.size
 replace B1 := B1.kp k2 fun h => h
 replace K1 := K1.trans k2
 clear e2 k2
 (refine AtR_nil (At_seq ?_))
 have kd := Kp.drew (S := No) (w := w2)
 refine AtL_draw (fun w' => Blk w' b 153 (0, 0) [.int .i64 (L : Int), .int .i64 (fst : Int)] ∧ Blk w' b2 153 (0, 0) z153) 13 rfl ?_
 have hS : Blk w2.drew b 153 (0, 0) [.int .i64 (L : Int), .int .i64 (fst : Int)] ∧ Blk w2.drew b2 153 (0, 0) z153 := ⟨B1.kp kd fun h => h, B2.kp kd fun h => h⟩
 (apply AtL_take 0 rfl (by decide +kernel) (by exact rfl); (focus (intro wx hx; obtain ⟨h1,h2⟩ := hx; exact x_fieldAddrN rfl (by first | exact Nat.zero_add _ | exact Nat.add_zero _ | (simp only [Nat.reduceAdd] <;> rfl) | exact rfl))); (focus (exact hS)))
 (apply AtL_take 1 rfl (by decide +kernel) (by exact rfl); (focus (intro wx hx; obtain ⟨h1,h2⟩ := hx; exact x_load1 rfl (by assumption) rfl)); (focus (exact hS)))
 (apply AtL_take 2 rfl (by decide +kernel) (by exact rfl); (focus (intro wx hx; obtain ⟨h1,h2⟩ := hx; exact x_sub64 rfl rfl (by omega) (by omega))); (focus (exact hS)))
 (apply AtL_take 3 rfl (by decide +kernel) (by exact rfl); (focus (intro wx hx; obtain ⟨h1,h2⟩ := hx; exact x_fieldAddrN rfl (by first | exact Nat.zero_add _ | exact Nat.add_zero _ | (simp only [Nat.reduceAdd] <;> rfl) | exact rfl))); (focus (exact hS)))
 (apply AtL_take 4 rfl (by decide +kernel) (by exact rfl); (focus (intro wx hx; obtain ⟨h1,h2⟩ := hx; exact x_load1 rfl (by assumption) rfl)); (focus (exact hS)))
 (apply AtL_take 5 rfl (by decide +kernel) (by exact rfl); (focus (intro wx hx; obtain ⟨h1,h2⟩ := hx; exact x_move (by conv => lhs; whnf))); (focus (exact hS)))
 (apply AtL_take 6 rfl (by decide +kernel) (by exact rfl); (focus (intro wx hx; obtain ⟨h1,h2⟩ := hx; exact x_fieldAddrN rfl (by first | exact Nat.zero_add _ | exact Nat.add_zero _ | (simp only [Nat.reduceAdd] <;> rfl) | exact rfl))); (focus (exact hS)))
 (apply AtL_take 7 rfl (by decide +kernel) (by exact rfl); (focus (intro wx hx; obtain ⟨h1,h2⟩ := hx; exact x_load1 rfl (by assumption) rfl)); (focus (exact hS)))
 (apply AtL_take 8 rfl (by decide +kernel) (by exact rfl); (focus (intro wx hx; obtain ⟨h1,h2⟩ := hx; exact x_sub64 rfl rfl (by omega) (by omega))); (focus (exact hS)))
 rw [show (L : Int) - 1 = (lv : Int) by omega]
 refine AtL_call 9 rfl (by decide +kernel) (by exact rfl) x_call  (room_calls (lv : Int) _ (by omega)) ?_
 rintro _ _ ⟨rfl, rfl⟩
 refine ⟨_, rfl, .inr hS, ?_⟩
 rw [roomZ_nat (by omega)]
 refine AtL_take 10 rfl (by decide +kernel) (by exact rfl) (fun wx hx => x_mul64 (a := (k : Int)) (b := ((roomN lv : Nat) : Int)) rfl rfl (by rw [← Int.natCast_mul]; omega) (by rw [← Int.natCast_mul]; omega)) hS ?_
 rw [← Int.natCast_mul]
 refine AtL_take 11 rfl (by decide +kernel) (by exact rfl) (fun wx hx => x_add64 (a := (fst : Int)) (b := ((k * roomN lv : Nat) : Int)) rfl rfl (by omega) (by omega)) hS ?_
 rw [show (fst : Int) + ((k * roomN lv : Nat) : Int) = ((fst + k * roomN lv : Nat) : Int) by omega]
 refine AtL_take 12 rfl (by decide +kernel) (by exact rfl) (fun wx hx => x_build rfl (built153 (lv : Int) ((fst + k * roomN lv : Nat) : Int))) hS ?_
 refine L_skip 13 rfl (by decide +kernel) (by exact rfl) (r_store_all (s := 2) (vs := spC lv (fst + k * roomN lv)) rfl rfl hS.2 rfl rfl rfl) ?_
 intro w3 e3
 refine ⟨.inl rfl, AtL_done (by decide +kernel) ?_⟩
 skip
 refine At_ret_cell Tryd.func81 rfl rfl e3.blk rfl ⟨rfl, ?_⟩
 exact (K1.trans kd).trans' (e3.kp (S := fun j => j = b2) (.inl rfl)) (by rintro j rfl; right; omega)
end Go.Proofs.YtfngacepjcdlnaaDoor
namespace Go.Kx
open Go
section
attribute [local semireducible] At AtR AtG Run AtH
variable {P : Program} {f : Fm} {n : Nat} {R : Ending → World → Prop} {k : List Item} {env : Env} {w : World} {S : World → Prop} {ops : Array Oper}
theorem AtH_pairX {fuel : Nat} {listed : Array Bool} (i j : Nat) {o u : Oper} {gf : FuncId} {args : Array Value} {w' : World} {Q : Ending → World → Prop} {Q1 : Value → World → Prop} (hi : ops[i]? = some o) (hj : ops[j]? = some u)
  (hr : Region.ready .any ops listed = [i, j] ∨ Region.ready .any ops listed = [j, i])
  (gi : gsays ops n env o true) (gj : gsays ops n env u true) (hrun : ∃ v w1, Run P n env o w (.ok (.value v) w1) ∧ Q1 v w1) (hcall : Run P n env u w (.ok (.enter gf args) w')) (hc : Calls P gf args w' Q)
  (k1 : ∀ v w1, Q1 v w1 → S w1 ∧ AtH P f n R ops S k fuel (listed.setIfInBounds i true) (updo env o.dst v) w1)
  (k2 : ∀ e w'', Q e w'' → ∃ v, e = .returned v ∧ S w'' ∧ AtH P f n R ops S k fuel (listed.setIfInBounds j true) (updo env u.dst v) w'') :
  AtH P f n R ops S k (fuel + 1) listed env w := by
 obtain ⟨v, w1, r1, q1⟩ := hrun
 obtain ⟨s1, a1⟩ := k1 v w1 q1
 have hall : ∀ l, l ∈ [i, j] → wpOp P ops (AtQ P f n R k) l (fun a' w' => S w' ∧ wpAnyH P .any ops (AtQ P f n R k) S fuel (listed.setIfInBounds l true) a' w') (mkF f n env) w := by
  intro l hl
  rcases List.mem_cons.1 hl with rfl | hl
  ·exact wpOp_val hi gi r1 s1 a1
  ·obtain rfl : l = j := by simpa using hl
   exact wpOp_call hj gj hcall hc k2
 rcases hr with hr | hr
 ·exact wpAnyH_all hr (by simp) hall
 ·exact wpAnyH_all hr (by simp) fun l hl => hall l (by simpa [or_comm] using hl)
end
theorem upd_comm (env : Env) {i j : Nat} (h : i ≠ j) (x y : Value) : upd (upd env i x) j y = upd (upd env j y) i x := by
 funext k
 unfold upd
 rcases hi : Nat.beq k i with _ | _ <;> rcases hj : Nat.beq k j with _ | _ <;> try rfl
 exact absurd ((Nat.eq_of_beq_eq_true hi).symm.trans (Nat.eq_of_beq_eq_true hj)) h
theorem r_alloc {P : Program} {n : Nat} {env : Env} {w : World} {dst : Option Tmp} {ty : TypeId} {pos : String} {aft : Array Edge} {g : Option (Nat × Bool)} {T : TypeId} {z : Value} [TZ P T z] :
  ∃ v w', Run P n env ⟨dst, .alloc T, ty, pos, aft, g⟩ w (.ok (.value v) w') ∧ ∃ b, v = .pointer (some ⟨b, 0, none⟩) ∧ b = w.heap.size ∧ Eff w w' b (.cells z.cells T (0, 0)) :=
 ⟨_, { w with heap := w.heap.push (.cells z.cells T (0, 0)) }, (by unfold Run; simp [execOp, Instr.alloc, run_zeroValue, newVar, newRow]), _, rfl, rfl, eff_push w _⟩
end Go.Kx
namespace Go.Proofs.YtfngacepjcdlnaaDoor
open Go Go.Kx Go.Kr Go.Mt
def packB (p : Pr) : List UInt8 := layN p.sec 4 ++ p.mac
theorem packB_length {p : Pr} (h : p.wf) : (packB p).length = 36 := by simp [packB, layN_length, h.mac]
def unB (l : List UInt8) : Pr := ⟨numB (l.take 4), l.drop 4⟩
def unOk (l : List UInt8) : Bool := decide (l.length = 36) && !(decide (numB (l.take 4) = 0) && !decide (l.drop 4 = List.replicate 32 0))
def unP (l : List UInt8) : Pr := if unOk l = true then unB l else Pr.zero
theorem seg_take {w : World} {b off : Nat} {k : IntKind} {xs : List Int} (h : Seg w b off (ints k xs)) (m : Nat) : Seg w b off (ints k (xs.take m)) := fun j hj => by
 have hj' : j < m ∧ j < xs.length := by simp at hj; omega
 have := h j (by simpa using hj'.2)
 rw [this, ints, ints, List.map_take, List.getElem?_take, if_pos hj'.1]
theorem seg_drop {w : World} {b off : Nat} {k : IntKind} {xs : List Int} (h : Seg w b off (ints k xs)) (m : Nat) : Seg w b (off + m) (ints k (xs.drop m)) := fun j hj => by
 have hj' : m + j < xs.length := by simp at hj; omega
 have := h (m + j) (by simpa using hj')
 rw [Nat.add_assoc, this, ints, ints, List.map_drop, List.getElem?_drop]
theorem bs8_take (l : List UInt8) (m : Nat) : (bs8 l).take m = bs8 (l.take m) := by simp [bs8]
theorem bs8_drop (l : List UInt8) (m : Nat) : (bs8 l).drop m = bs8 (l.drop m) := by simp [bs8]
set_option maxRecDepth 100000 in
set_option maxHeartbeats 4000000 in
theorem pack_calls (p : Pr) (w : World) (hp : p.wf) :
  Calls Tryd.prog 29 #[.agg (prC p).toArray] w
   fun e w' => ∃ a' cap', e = .returned (.slice a' 36 cap') ∧ Own w' 5 1 a' 36 cap' (ints .u8 (bs8 (packB p))) ∧ (∀ j, blkOf a' j → w.heap.size ≤ j) ∧ Kp No w w' := by
 refine calls_at (n := 9) Tryd.func29 rfl rfl (by simp) ?_
 have hm := hp.mac
 (refine At_seq (At_region ?_))
 refine AtR_go rfl (AtG_box rfl fun b w1 hb e1 => ?_)
 have B1 : Blk w1 b 38 (0, 0) (.int .i64 (p.sec : Int) :: ints .u8 (bs8 p.mac)) := e1.blk
 have K1 : Kp No w w1 := e1.kp (.inr (by omega))
 clear e1
 (refine s_as ?_; refine AtR_nil (At_seq ?_))
 have kd := Kp.drew (S := No) (w := w1)
 let S : World → Prop := fun w' => Blk w' b 38 (0, 0) (.int .i64 (p.sec : Int) :: ints .u8 (bs8 p.mac))
 refine At_draw S rfl ?_
 have hS : S w1.drew := B1.kp kd fun h => h
 (apply AtH_take 0 rfl (by decide +kernel) (by exact rfl); (focus (intro wx hx; skip; exact x_fieldAddrN rfl (by first | exact Nat.zero_add _ | exact Nat.add_zero _ | (simp only [Nat.reduceAdd] <;> rfl) | exact rfl))); (focus (exact hS)))
 (apply AtH_take 3 rfl (by decide +kernel) (by exact rfl); (focus (intro wx hx; skip; exact x_fieldAddrN rfl (by first | exact Nat.zero_add _ | exact Nat.add_zero _ | (simp only [Nat.reduceAdd] <;> rfl) | exact rfl))); (focus (exact hS)))
 refine AtH_take 1 rfl (by decide +kernel) (by exact rfl) (fun wx hx => x_load1 rfl hx rfl) hS ?_
 refine AtH_take 4 rfl (by decide +kernel) (by exact rfl) (fun wx hx => x_slice_arr rfl) hS ?_
 refine AtH_call 2 rfl (by decide +kernel) (by exact rfl) x_call  (lay_calls p.sec 4 _ hp.sec (by omega)) ?_
 rintro _ w2 ⟨a2, c2, rfl, ho2, hf2, k2⟩
 have hS2 : S w2 := hS.kp k2 fun h => h
 refine ⟨_, rfl, hS2, ?_⟩
 have hsl : Sl w2 .u8 (some ⟨b, 1, none⟩) 32 32 (bs8 p.mac) := ⟨by simp [hm], Nat.le_refl _, by omega, .inr ⟨b, 1, rfl, hS2.lt, fun j hj => by rw [hS2.cell, Nat.add_comm 1, List.getElem?_cons_succ]⟩⟩
 have hmax := ho2.2.2.1
 refine H_val 5 rfl (by decide +kernel) (by exact rfl) (r_append rfl rfl ho2 (hsl.src (T := 31) rfl) rfl (by omega) (by simp only [maxLen]; omega) (by omega)) ?_
 rintro _ w3 ⟨a3, c3, rfl, ho3, k3, hf3⟩
 have hnb : ¬ blkOf a2 b := fun h => by have := hf2 b h; have := hS.lt; omega
 have hS3 : S w3 := hS2.kp k3 hnb
 refine ⟨hS3, ?_⟩
 clear hS hS2
 have hS := hS3
 (apply AtH_take 6 rfl (by decide +kernel) (by exact rfl); (focus (intro wx hx; skip; exact x_assign (by conv => lhs; whnf))); (focus (exact hS)))
 refine AtH_done (by decide +kernel) ?_
 skip
 refine At_ret1 Tryd.func29 rfl (by conv => lhs; whnf) ?_
 have z1 := K1.size
 have zd := kd.size
 refine ⟨_, _, rfl, own_eq ho3 (by simp [packB, bs8, ints]) rfl, ?_, (K1.trans (kd.trans k2)).trans' k3 fun j hj => .inr (by have := hf2 j hj; omega)⟩
 rcases hf3 with rfl | ⟨b', rfl, hb'⟩
 ·intro j hj; have := hf2 j hj; omega
 ·intro j hj; simp [blkOf] at hj; have := k2.size; omega
theorem prC_mkI {p : Pr} (h : p.mac.length = 32) : prC p = mkI K38 (prI p) := by
 show _ = mkI ([.i64] ++ List.replicate 32 .u8) ([(p.sec : Int)] ++ bs8 p.mac)
 rw [mkI_append rfl, mkI_replicate _ _ _ (by simp [h])]
 rfl
theorem prI_length {p : Pr} (h : p.mac.length = 32) : K38.length = (prI p).length := by simp [K38, prI, h]
theorem prI_inj {p q : Pr} (h : prI p = prI q) : p = q := by
 unfold prI at h
 obtain ⟨h1, h2⟩ := List.cons.inj h
 have h3 : p.mac = q.mac := by
  have := congrArg (List.map fun x : Int => UInt8.ofNat x.toNat) h2
  simpa [bs8, ub, Function.comp_def] using this
 cases p; cases q
 simp only at h1 h3
 subst h3
 congr 1
 omega
theorem prC_one (p : Pr) : (prC p).all (·.oneCell') = true := by
 rw [prC, List.all_cons, ints_one]
 rfl
theorem built38_nil : Tryd.prog.built 38 [] = some (prC Pr.zero).toArray := by kernel_rfl
theorem built38_nil' : Tryd.prog.built 38 [] = some (mkI K38 (prI Pr.zero)).toArray := by kernel_rfl
theorem z38_eq : z38 = prC Pr.zero := rfl
theorem built38 (v : List (Nat × Value)) : Tryd.prog.built 38 v = Instr.fill (#[(0, 1), (1, 32)][·]?) z38.toArray v := by kernel_rfl
theorem built38_e (a : Int) (xs : List Value) (h : xs.length = 32) : Tryd.prog.built 38 [(0, .int .i64 a), (1, .agg xs.toArray)] = some (Value.int .i64 a :: xs).toArray := by
 have e0 : Tryd.prog.built 38 [(0, .int .i64 a), (1, .agg xs.toArray)] = Instr.fill (#[(0, 1), (1, 32)][·]?) (Value.int .i64 a :: List.replicate 32 (Value.int .u8 0)).toArray [(1, .agg xs.toArray)] := by rw [built38]; rfl
 rw [e0, fill_agg (i := 1) (off := 1) (s := 32) rfl h (by simp)]
 have e : lay (Value.int .i64 a :: List.replicate 32 (Value.int .u8 0)) 1 xs = Value.int .i64 a :: xs := by
  unfold lay
  simp [h]
 rw [e]; rfl
set_option maxRecDepth 100000 in
set_option maxHeartbeats 4000000 in
theorem unpack_calls (l : List UInt8) (a : Option Addr) (len cap : Nat) (w : World) {D : Nat → Prop} (hs : SlE w .u8 a len cap (bs8 l) D) :
  Calls Tryd.prog 60 #[.slice a len cap] w fun e w' => e = .returned (.tuple #[.agg (prC (unP l)).toArray, .bool (unOk l)]) ∧ Kp No w w' := by
 have hll := hs.len_eq
 simp only [bs8_length] at hll
 subst hll
 have hcap := hs.le
 have hmx := hs.max
 refine calls_at (n := 27) Tryd.func60 rfl rfl (by simp) ?_
 (refine At_seq (At_region ?_))
 refine AtR_go rfl (AtG_alloc fun b2 w1 hb2 e1 => ?_)
 have B2 : Blk w1 b2 38 (0, 0) z38 := e1.blk
 have K1 : Kp No w w1 := e1.kp (.inr (by omega))
 clear e1
 by_cases h36 : l.length = 36
 ·rcases hs.mem with h0 | ⟨b, off, rfl, hlt, _, hseg⟩
  ·omega
  (refine s_as ?_; refine AtR_nil (At_seq (At_seq (At_region ?_))); refine s_mv ?_; refine s_ln ?_; refine s_neq ?_; refine AtR_nil ?_; refine At_cond_f rfl ?_; refine At_skip (At_seq ?_))
  have kd := Kp.drew (S := No) (w := w1)
  have k2 := K1.trans kd
  have hseg2 := hseg.kp k2 (fun h => h) hlt
  have hlt2 : b < w1.drew.heap.size := Nat.lt_of_lt_of_le hlt k2.size
  refine At_meet (σ := Nat) (fun b4 => [(2, .pointer (some ⟨b2, 0, none⟩)), (4, .pointer (some ⟨b4, 0, none⟩))]) (fun b4 w' => Blk w' b4 38 (0, 0) (prC (unB l)) ∧ Blk w' b2 38 (0, 0) z38 ∧ b2 ≠ b4 ∧ Kp No w w') ?_ ?_
  ·rintro b4 w5 junk ⟨B4, B2, hne, K5⟩
   have hu : (unB l).mac.length = 32 := by simp [unB, h36]
   have hl4 : (prC (unB l)).length = 33 := by simp [prC, hu]
   have fin : ∀ {p : Pr} {w6 : World}, Eff w5 w6 b2 (.cells (prC p).toArray 38 (0, 0)) → Kp No w w6 := fun {p w6} e =>
    K5.trans' (e.kp (S := fun j => j = b2) (.inl rfl)) (by rintro j rfl; right; omega)
   (refine At_seq (At_seq (At_region ?_)); refine s_fa ?_; refine s_ld ?_)
   by_cases h0 : (unB l).sec = 0
   ·(refine s_eql ?_; refine s_mv ?_)
    refine s_yes rfl rfl rfl rfl (g_val (x_load_all (cs := mkI K38 (prI (unB l))) rfl (by rw [← prC_mkI hu]; exact B4) (by rw [← prC_mkI hu]; exact hl4)) ?_)
    refine s_yes rfl rfl rfl rfl (g_val (x_build rfl built38_nil') ?_)
    refine s_yes rfl rfl rfl rfl (g_val (x_neq_flat rfl rfl (prI_length hu).symm (prI_length (p := Pr.zero) rfl).symm) ?_)
    by_cases hz : l.drop 4 = List.replicate 32 0
    ·have e : unB l = Pr.zero := by
      unfold unB at h0 ⊢
      simp only at h0
      rw [h0, hz]; rfl
     have ho : unOk l = true := by unfold unOk; rw [decide_eq_true h36, decide_eq_true hz, Bool.not_true, Bool.and_false]; rfl
     rw [decide_eq_false (fun h => h (by rw [e]))]
     (refine s_pt ?_; refine AtR_nil ?_; refine At_cond_f rfl ?_; refine At_skip (At_seq ?_); refine At_region ?_)
     refine s_val (x_load_all rfl B4 hl4) ?_
     refine AtR_go rfl (G_skip (r_store_all (s := 33) rfl rfl B2 hl4 rfl (prC_one _)) fun w6 e6 => ?_)
     (refine s_as ?_; refine AtR_nil ?_)
     refine At_ret_cell2 (s := 33) Tryd.func60 rfl rfl e6.blk hl4 rfl ⟨?_, fin e6⟩
     unfold unP; rw [ho]; rfl
    ·have ho : unOk l = false := by
      have h0' : numB (l.take 4) = 0 := h0
      unfold unOk; rw [decide_eq_true h36, decide_eq_false hz, decide_eq_true h0']; rfl
     rw [show decide (prI (unB l) ≠ prI Pr.zero) = true from decide_eq_true (fun h => hz (by have := congrArg Pr.mac (prI_inj h); exact this))]
     (refine s_pt ?_; refine AtR_nil ?_; refine At_cond_t rfl ?_; refine At_seq (At_region ?_))
     refine s_val (x_build rfl built38_nil) ?_
     skip
     refine AtR_go rfl (G_skip (r_store_all (s := 33) (vs := prC Pr.zero) rfl rfl B2 rfl rfl (prC_one _)) fun w6 e6 => ?_)
     (refine s_as ?_; refine AtR_nil ?_)
     refine At_ret_cell2 (s := 33) Tryd.func60 rfl rfl e6.blk rfl rfl ⟨?_, fin e6⟩
     unfold unP; rw [ho]; rfl
   ·have ho : unOk l = true := by
     have h0' : ¬ numB (l.take 4) = 0 := h0
     unfold unOk; rw [decide_eq_true h36, decide_eq_false h0']; rfl
    (refine s_eql ?_; refine s_mv ?_; refine s_no rfl rfl rfl rfl ?_; refine s_no rfl rfl rfl rfl ?_; refine s_no rfl rfl rfl rfl ?_; refine s_pf ?_; refine AtR_nil ?_; refine At_cond_f rfl ?_; refine At_skip (At_seq ?_); refine At_region ?_)
    refine s_val (x_load_all rfl B4 hl4) ?_
    refine AtR_go rfl (G_skip (r_store_all (s := 33) rfl rfl B2 hl4 rfl (prC_one _)) fun w6 e6 => ?_)
    (refine s_as ?_; refine AtR_nil ?_)
    refine At_ret_cell2 (s := 33) Tryd.func60 rfl rfl e6.blk hl4 rfl ⟨?_, fin e6⟩
    unfold unP; rw [ho]; rfl
  intro join
  refine At_draw (fun w' => Seg w' b off (ints .u8 (bs8 l))) rfl ?_
  have hS := hseg2
  (apply AtH_take 0 rfl (by decide +kernel) (by exact rfl); (focus (intro wx hx; skip; exact x_move (by conv => lhs; whnf))); (focus (exact hS)))
  (apply AtH_take 3 rfl (by decide +kernel) (by exact rfl); (focus (intro wx hx; skip; exact x_move (by conv => lhs; whnf))); (focus (exact hS)))
  refine AtH_take 1 rfl (by decide +kernel) (by exact rfl) (fun wx hx => x_slice_h rfl rfl (by omega) (by omega)) hS ?_
  refine AtH_take 4 rfl (by decide +kernel) (by exact rfl) (fun wx hx => x_slice_l rfl rfl (by omega) (by omega) (by omega)) hS ?_
  refine AtH_take 5 rfl (by decide +kernel) (by exact rfl) (fun wx hx => x_arrayAt rfl (by omega)) hS ?_
  have hseg4 : ∀ {w'}, Seg w' b off (ints .u8 (bs8 l)) → Seg w' b (off + (4 : Int).toNat * 1) (ints .u8 (bs8 (l.drop 4))) := fun h => by
   rw [← bs8_drop]; exact seg_drop h 4
  refine AtH_take 6 rfl (by decide +kernel) (by exact rfl) (fun wx hx => x_load_segN rfl (hseg4 hx) (by simp [h36])) hS ?_
  have hs4 : SlE w1.drew .u8 (some ⟨b, off, none⟩) 4 cap (bs8 (l.take 4)) (fun _ => True) := ⟨by simp [h36], by omega, hmx, .inr ⟨b, off, rfl, hlt2, trivial, by rw [← bs8_take]; exact seg_take hseg2 4⟩⟩
  refine AtH_pairX 8 2 rfl rfl (by first | exact .inl (by decide +kernel) | exact .inr (by decide +kernel)) (by exact rfl) (by exact rfl) r_alloc x_call (number_calls (l.take 4) _ _ _ _ hs4 (by omega)) ?_ ?_
  ·rintro _ w2 ⟨b4, rfl, hb4, e4⟩
   have B4 : Blk w2 b4 38 (0, 0) z38 := e4.blk
   have k4 : Kp No w1.drew w2 := e4.kp (.inr (by omega))
   have hS2 : Seg w2 b off (ints .u8 (bs8 l)) := hS.kp k4 (fun h => h) hlt2
   refine ⟨hS2, ?_⟩
   clear hS
   have hS := hS2
   refine AtH_call 2 rfl (by decide +kernel) (by exact rfl) x_call  (number_calls (l.take 4) _ _ _ _ (hs4.kpn k4) (by omega)) ?_
   rintro _ _ ⟨rfl, rfl⟩
   refine ⟨_, rfl, hS, ?_⟩
   refine AtH_take 7 rfl (by decide +kernel) (by exact rfl) (fun wx hx => x_build rfl (built38_e _ _ (by simp [h36]))) hS ?_
   refine H_skip 9 rfl (by decide +kernel) (by exact rfl) (r_store_all (s := 33) (vs := prC (unB l)) rfl rfl B4 (by simp [prC, unB, h36]) rfl (prC_one _)) ?_
   intro w5 e5
   have hne : b ≠ b4 := by omega
   refine ⟨hS.kp (e5.kp (S := fun j => j = b4) (.inl rfl)) hne (Nat.lt_of_lt_of_le hlt2 k4.size), ?_⟩
   refine AtH_done (by decide +kernel) ?_
   have hne2 : b2 ≠ b4 := by have := (B2.kp kd fun h => h).lt; omega
   exact join b4 _ _ ⟨rfl, rfl, trivial⟩ ⟨e5.blk, ((B2.kp kd fun h => h).kp k4 fun h => h).kp (e5.kp (S := fun j => j = b4) (.inl rfl)) hne2, hne2, (k2.trans k4).trans' (e5.kp (S := fun j => j = b4) (.inl rfl)) (by rintro j rfl; right; have := k2.size; omega)⟩
  ·rintro _ _ ⟨rfl, rfl⟩
   refine ⟨_, rfl, hS, ?_⟩
   refine AtH_take 7 rfl (by decide +kernel) (by exact rfl) (fun wx hx => x_build rfl (built38_e _ _ (by simp [h36]))) hS ?_
   refine H_val 8 rfl (by decide +kernel) (by exact rfl) r_alloc ?_
   rintro _ w2 ⟨b4, rfl, hb4, e4⟩
   have B4 : Blk w2 b4 38 (0, 0) z38 := e4.blk
   have k4 : Kp No w1.drew w2 := e4.kp (.inr (by omega))
   have hS2 : Seg w2 b off (ints .u8 (bs8 l)) := hS.kp k4 (fun h => h) hlt2
   refine ⟨hS2, ?_⟩
   clear hS
   have hS := hS2
   refine H_skip 9 rfl (by decide +kernel) (by exact rfl) (r_store_all (s := 33) (vs := prC (unB l)) rfl rfl B4 (by simp [prC, unB, h36]) rfl (prC_one _)) ?_
   intro w5 e5
   have hne : b ≠ b4 := by omega
   refine ⟨hS.kp (e5.kp (S := fun j => j = b4) (.inl rfl)) hne (Nat.lt_of_lt_of_le hlt2 k4.size), ?_⟩
   refine AtH_done (by decide +kernel) ?_
   have hne2 : b2 ≠ b4 := by have := (B2.kp kd fun h => h).lt; omega
   exact join b4 _ _ ⟨rfl, rfl, trivial⟩ ⟨e5.blk, ((B2.kp kd fun h => h).kp k4 fun h => h).kp (e5.kp (S := fun j => j = b4) (.inl rfl)) hne2, hne2, (k2.trans k4).trans' (e5.kp (S := fun j => j = b4) (.inl rfl)) (by rintro j rfl; right; have := k2.size; omega)⟩
 (refine s_as ?_; refine AtR_nil (At_seq (At_seq (At_region ?_))); refine s_mv ?_; refine s_ln ?_; refine s_neq ?_; refine AtR_nil ?_; refine At_cond_t rfl ?_; refine At_seq (At_region ?_))
 refine s_val (x_build rfl built38_nil) ?_
 skip
 refine AtR_go rfl (G_skip (r_store_all (s := 33) (vs := prC Pr.zero) rfl rfl B2 rfl rfl (prC_one _)) fun w2 e2 => ?_)
 (refine s_as ?_; refine AtR_nil ?_)
 refine At_ret_cell2 (s := 33) Tryd.func60 rfl rfl e2.blk rfl rfl ⟨?_, K1.trans' (e2.kp (S := fun j => j = b2) (.inl rfl)) (by rintro j rfl; right; omega)⟩
 have : unOk l = false := by unfold unOk; rw [decide_eq_false h36]; rfl
 unfold unP
 rw [this]
 rfl
end Go.Proofs.YtfngacepjcdlnaaDoor
