/- Words of 64 bits and octets: what the operations on them do. Own work; nothing of a program is named here. -/
import Derived.Test.YtgobmphkakmdmaaDoorKj
import Derived.Test.YtgobmphkakmdmaaDoorKl
namespace Go.Kx
open Go
/-- A word of 64 bits, an octet: as numbers. -/
def uw (a : BitVec 64) : Int := (a.toNat : Int)
def ub (b : UInt8) : Int := (b.toNat : Int)
def ws (l : List (BitVec 64)) : List Int := l.map uw
def bs8 (l : List UInt8) : List Int := l.map ub
@[simp] theorem ws_length (l : List (BitVec 64)) : (ws l).length = l.length := by simp [ws]
@[simp] theorem bs8_length (l : List UInt8) : (bs8 l).length = l.length := by simp [bs8]
theorem ws_get {l : List (BitVec 64)} {i : Nat} (h : i < l.length) : (ws l).getD i 0 = uw (l.getD i 0) := by simp [ws, List.getD, h]
theorem bs8_get {l : List UInt8} {i : Nat} (h : i < l.length) : (bs8 l).getD i 0 = ub (l.getD i 0) := by simp [bs8, List.getD, h]
theorem ws_set (l : List (BitVec 64)) (i : Nat) (a : BitVec 64) : (ws l).set i (uw a) = ws (l.set i a) := by simp [ws, List.map_set]
theorem bs8_set (l : List UInt8) (i : Nat) (a : UInt8) : (bs8 l).set i (ub a) = bs8 (l.set i a) := by simp [bs8, List.map_set]
theorem ws_app (l m : List (BitVec 64)) : ws (l ++ m) = ws l ++ ws m := by simp [ws]
theorem bs8_app (l m : List UInt8) : bs8 (l ++ m) = bs8 l ++ bs8 m := by simp [bs8]
theorem uw_bd (a : BitVec 64) : 0 ≤ uw a ∧ uw a < 18446744073709551616 := by
  have := a.isLt
  unfold uw; omega
theorem ub_bd (b : UInt8) : 0 ≤ ub b ∧ ub b < 256 := by
  have := b.toNat_lt
  unfold ub; omega
theorem uw_inj {a b : BitVec 64} : uw a = uw b ↔ a = b := by
  constructor
  · intro h; exact BitVec.eq_of_toNat_eq (by unfold uw at h; omega)
  · rintro rfl; rfl
theorem ub_inj {a b : UInt8} : ub a = ub b ↔ a = b := by
  constructor
  · intro h; exact UInt8.toNat_inj.1 (by unfold ub at h; omega)
  · rintro rfl; rfl
theorem wrap_u64 (m : Int) : IntKind.u64.wrap m = m % 18446744073709551616 := by simp [IntKind.wrap, IntKind.bits, IntKind.signed]
theorem wrap_u8 (m : Int) : IntKind.u8.wrap m = m % 256 := by simp [IntKind.wrap, IntKind.bits, IntKind.signed]
theorem ofInt_uw (a : BitVec 64) : BitVec.ofInt 64 (uw a) = a := by
  unfold uw
  rw [BitVec.ofInt_natCast]
  simp
theorem wrap_uw (a : BitVec 64) : IntKind.u64.wrap (a.toNat : Int) = uw a := by
  have := a.isLt
  rw [wrap_u64]; unfold uw; omega
theorem ofInt_ub (a : UInt8) : BitVec.ofInt 8 (ub a) = a.toBitVec := by
  unfold ub
  rw [BitVec.ofInt_natCast]
  simp
theorem wrap_ub (a : UInt8) : IntKind.u8.wrap (a.toBitVec.toNat : Int) = ub a := by
  have := a.toNat_lt
  rw [wrap_u8]; unfold ub
  simp only [UInt8.toNat_toBitVec]; omega
section
variable {P : Program} {n : Nat} {env : Env} {w : World} {dst : Option Tmp} {ty : TypeId} {pos : String} {aft : Array Edge} {g : Option (Nat × Bool)}
theorem x_xorW {x y : Operand} {T T' : TypeId} {a b : BitVec 64} (hx : ev n env x = .int .u64 (uw a)) (hy : ev n env y = .int .u64 (uw b)) :
    Run P n env ⟨dst, .binOp .xor T x y T', ty, pos, aft, g⟩ w (.ok (.value (.int .u64 (uw (a ^^^ b)))) w) := by
  unfold Run
  simp only [execOp, hx, hy]
  simp [eqGuard, binOp, Op.intBits, IntKind.bits, ofInt_uw, - BitVec.toNat_xor, wrap_uw]
  rfl
theorem x_andW {x y : Operand} {T T' : TypeId} {a b : BitVec 64} (hx : ev n env x = .int .u64 (uw a)) (hy : ev n env y = .int .u64 (uw b)) :
    Run P n env ⟨dst, .binOp .and T x y T', ty, pos, aft, g⟩ w (.ok (.value (.int .u64 (uw (a &&& b)))) w) := by
  unfold Run
  simp only [execOp, hx, hy]
  simp [eqGuard, binOp, Op.intBits, IntKind.bits, ofInt_uw, - BitVec.toNat_and, wrap_uw]
  rfl
theorem x_orW {x y : Operand} {T T' : TypeId} {a b : BitVec 64} (hx : ev n env x = .int .u64 (uw a)) (hy : ev n env y = .int .u64 (uw b)) :
    Run P n env ⟨dst, .binOp .or T x y T', ty, pos, aft, g⟩ w (.ok (.value (.int .u64 (uw (a ||| b)))) w) := by
  unfold Run
  simp only [execOp, hx, hy]
  simp [eqGuard, binOp, Op.intBits, IntKind.bits, ofInt_uw, - BitVec.toNat_or, wrap_uw]
  rfl
theorem x_addW {x y : Operand} {T T' : TypeId} {a b : BitVec 64} (hx : ev n env x = .int .u64 (uw a)) (hy : ev n env y = .int .u64 (uw b)) :
    Run P n env ⟨dst, .binOp .add T x y T', ty, pos, aft, g⟩ w (.ok (.value (.int .u64 (uw (a + b)))) w) := by
  have h := x_add (P := P) (w := w) (dst := dst) (ty := ty) (pos := pos) (aft := aft) (g := g) (T := T) (T' := T') hx hy
  have e : IntKind.u64.wrap (uw a + uw b) = uw (a + b) := by
    rw [wrap_u64]; unfold uw; rw [BitVec.toNat_add]; omega
  rw [e] at h; exact h
theorem x_mulW {x y : Operand} {T T' : TypeId} {a b : BitVec 64} (hx : ev n env x = .int .u64 (uw a)) (hy : ev n env y = .int .u64 (uw b)) :
    Run P n env ⟨dst, .binOp .mul T x y T', ty, pos, aft, g⟩ w (.ok (.value (.int .u64 (uw (a * b)))) w) := by
  have h := x_mul (P := P) (w := w) (dst := dst) (ty := ty) (pos := pos) (aft := aft) (g := g) (T := T) (T' := T') hx hy
  have e : IntKind.u64.wrap (uw a * uw b) = uw (a * b) := by
    rw [wrap_u64]; unfold uw; rw [BitVec.toNat_mul, ← Int.natCast_mul]; omega
  rw [e] at h; exact h
theorem x_shlW {x y : Operand} {T T' : TypeId} {a : BitVec 64} {k : IntKind} {m : Int} (hx : ev n env x = .int .u64 (uw a)) (hy : ev n env y = .int k m) (hm : 0 ≤ m) :
    Run P n env ⟨dst, .binOp .shl T x y T', ty, pos, aft, g⟩ w (.ok (.value (.int .u64 (uw (a <<< m.toNat)))) w) := by
  have h0 : ¬ m < 0 := by omega
  have e : IntKind.u64.wrap (uw a * 2 ^ min m.toNat 64) = uw (a <<< m.toNat) := by
    rw [wrap_u64]; unfold uw; rw [BitVec.toNat_shiftLeft, Nat.shiftLeft_eq]
    rcases Nat.le_total m.toNat 64 with h | h
    · rw [Nat.min_eq_left h]
      have e1 : ((a.toNat * 2 ^ m.toNat : Nat) : Int) = (a.toNat : Int) * 2 ^ m.toNat := by rw [Int.natCast_mul, Int.natCast_pow]; rfl
      rw [← e1]; omega
    · rw [Nat.min_eq_right h]
      have h1 : (2 : Nat) ^ m.toNat = 2 ^ 64 * 2 ^ (m.toNat - 64) := by rw [← Nat.pow_add]; congr 1; omega
      rw [h1, ← Nat.mul_assoc, Nat.mul_right_comm, Nat.mul_mod_left]
      omega
  unfold Run
  simp only [execOp, hx, hy]
  simp [eqGuard, binOp, Op.shift, IntKind.bits, h0, e]
theorem x_shrW {x y : Operand} {T T' : TypeId} {a : BitVec 64} {k : IntKind} {m : Int} (hx : ev n env x = .int .u64 (uw a)) (hy : ev n env y = .int k m) (hm : 0 ≤ m) :
    Run P n env ⟨dst, .binOp .shr T x y T', ty, pos, aft, g⟩ w (.ok (.value (.int .u64 (uw (a >>> m.toNat)))) w) := by
  have h0 : ¬ m < 0 := by omega
  have e : (uw a).fdiv (2 ^ min m.toNat 64) = uw (a >>> m.toNat) := by
    have hlt := a.isLt
    unfold uw; rw [BitVec.toNat_ushiftRight, Nat.shiftRight_eq_div_pow]
    rw [Int.fdiv_eq_ediv_of_nonneg _ (by exact_mod_cast Nat.zero_le _)]
    rcases Nat.le_total m.toNat 64 with h | h
    · rw [Nat.min_eq_left h]
      have e1 : ((2 ^ m.toNat : Nat) : Int) = 2 ^ m.toNat := by rw [Int.natCast_pow]; rfl
      rw [← e1, ← Int.natCast_ediv]
    · rw [Nat.min_eq_right h]
      have h1 : (2 : Nat) ^ 64 ≤ 2 ^ m.toNat := Nat.pow_le_pow_right (by omega) h
      rw [Nat.div_eq_of_lt (by omega)]
      omega
  unfold Run
  simp only [execOp, hx, hy]
  simp [eqGuard, binOp, Op.shift, IntKind.bits, h0, e]
/-- An octet into a word, a word into an octet. -/
theorem x_conv_bw {S T : TypeId} {x : Operand} {ks : IntKind} {a : UInt8} [hS : TU P S (.int ks)] [hT : TU P T (.int .u64)] (hx : ev n env x = .int .u8 (ub a)) :
    Run P n env ⟨dst, .convert S T x, ty, pos, aft, g⟩ w (.ok (.value (.int .u64 (uw (BitVec.ofNat 64 a.toNat)))) w) := by
  have h := x_convert (P := P) (w := w) (dst := dst) (ty := ty) (pos := pos) (aft := aft) (g := g) (S := S) (T := T) hx
  have e : IntKind.u64.wrap (ub a) = uw (BitVec.ofNat 64 a.toNat) := by
    rw [wrap_u64]; unfold uw ub; rw [BitVec.toNat_ofNat]; omega
  rw [e] at h; exact h
def lowb (a : BitVec 64) : UInt8 := UInt8.ofBitVec (a.setWidth 8)
theorem x_conv_wb {S T : TypeId} {x : Operand} {ks : IntKind} {a : BitVec 64} [hS : TU P S (.int ks)] [hT : TU P T (.int .u8)] (hx : ev n env x = .int .u64 (uw a)) :
    Run P n env ⟨dst, .convert S T x, ty, pos, aft, g⟩ w (.ok (.value (.int .u8 (ub (lowb a)))) w) := by
  have h := x_convert (P := P) (w := w) (dst := dst) (ty := ty) (pos := pos) (aft := aft) (g := g) (S := S) (T := T) hx
  have e : IntKind.u8.wrap (uw a) = ub (lowb a) := by
    rw [wrap_u8]; unfold uw ub lowb; simp
  rw [e] at h; exact h
theorem x_conv_iw {S T : TypeId} {x : Operand} {ks k : IntKind} {a : Nat} [hS : TU P S (.int ks)] [hT : TU P T (.int .u64)] (hx : ev n env x = .int k (a : Int)) :
    Run P n env ⟨dst, .convert S T x, ty, pos, aft, g⟩ w (.ok (.value (.int .u64 (uw (BitVec.ofNat 64 a)))) w) := by
  have h := x_convert (P := P) (w := w) (dst := dst) (ty := ty) (pos := pos) (aft := aft) (g := g) (S := S) (T := T) hx
  have e : IntKind.u64.wrap (a : Int) = uw (BitVec.ofNat 64 a) := by
    rw [wrap_u64]; unfold uw; rw [BitVec.toNat_ofNat]; omega
  rw [e] at h; exact h
theorem x_xorB {x y : Operand} {T T' : TypeId} {a b : UInt8} (hx : ev n env x = .int .u8 (ub a)) (hy : ev n env y = .int .u8 (ub b)) :
    Run P n env ⟨dst, .binOp .xor T x y T', ty, pos, aft, g⟩ w (.ok (.value (.int .u8 (ub (a ^^^ b)))) w) := by
  have e : IntKind.u8.wrap ((a.toBitVec ^^^ b.toBitVec).toNat : Int) = ub (a ^^^ b) := by rw [← UInt8.toBitVec_xor]; exact wrap_ub _
  unfold Run
  simp only [execOp, hx, hy]
  simp only [eqGuard, binOp, Op.intBits, IntKind.bits, ofInt_ub]
  simp
  exact e
theorem x_neg {x : Operand} {T : TypeId} {k : IntKind} {a : Int} (hx : ev n env x = .int k a) :
    Run P n env ⟨dst, .unOp .neg T x, ty, pos, aft, g⟩ w (.ok (.value (.int k (k.wrap (0 - a)))) w) := by
  unfold Run
  simp [execOp, hx, Op.unary, Op.intArith]
end
end Go.Kx
