/- The steps that find their own reasons. Own work; nothing of a program is named here. | Operations that change the world, said as 'there is a run, and of it this holds': for a region that draws its order. Slices of whole numbers that came in. Own work. | Bounds of remainders. Own work; nothing of a program is named here. | What comes in: how the arguments of a law are opened. Own work; nothing of a program is named here. | Slices of truth values that came in. Own work; nothing of a program is named here. | A region that draws its order, where two operations may come up: both orders. Own work; nothing of a program is named here. | Slices of whole numbers that may be empty at any address. Own work; nothing of a program is named here. | Slices of structs of a number and a slice of numbers, that came in. Own work; nothing of a program is named here. | Words of 64 bits and octets: what the operations on them do. Own work; nothing of a program is named here. | Arrays in memory, copy, min, max, cap; loads of words and octets; steps of their own for words. Own work; nothing of a program is named here. | A region that draws its order, where a value and a call may come up: both orders. Own work; nothing of a program is named here. | Ranges over a function. Own work; nothing of a program is named here. | Functions that the model stands in for: bytealg.Compare, slices.overlaps; clear of octets. Own work; nothing of a program is named here. | Parts of slices of cells, appended noughts, overlaps. Own work; nothing of a program is named here. | Structs built of parts, slices turned into arrays, rows of one struct or array. Own work; nothing of a program is named here. | A region that draws its order, with one operation f that comes behind all that is taken: behind it the condition S need not hold. Own work (after the kit's law without such an f); nothing of a program is named here. | Keys of a ring, plainly: in order of their identifiers. Own work; nothing of a program is named here. -/
import Derived.Test.YtfngacepjcdlnaaDoorQKa
import Derived.ProofKit
import Derived.ChangeSlices
import Derived.ChangeSame
import Derived.RangeFuncIn
import Derived.RangeFuncRecord
import Derived.Lib.BytesEntry
import Derived.Lib.Bytealg
import Derived.Lib.Overlaps
import Derived.Laws.Externs
import Derived.Lib.AppendZerosOnto
import Derived.Laws.Tables
import GoSem.Op.String
set_option linter.unusedVariables false
namespace Go.Kx
open Go
section
variable {P : Program} {f : Fm} {n : Nat} {R : Ending → World → Prop} {k : List Item} {env : Env} {w : World} {pre rest : List Oper} {d : Tmp} {op : Op} {ty : TypeId} {pos : String} {aft : Array Edge}
 {g : Option (Nat × Bool)} {v : Value} {p bv : Bool} {w' : World}
theorem wrap_in_i64 {x : Int} (h1 : -9223372036854775808 ≤ x) (h2 : x ≤ 9223372036854775807) : IntKind.i64.wrap x = x := i64_in h1 h2
theorem x_eql_ptr_nil {dst : Option Tmp} {x y : Operand} {T T' E : TypeId} [hT : TU P T (.pointer E)] {ad : Addr} (hx : ev n env x = .pointer (some ad)) (hy : ev n env y = .pointer none) :
  Run P n env ⟨dst, .binOp .eql T x y T', ty, pos, aft, g⟩ w (.ok (.value (.bool false)) w) := by
 have hp : P.underlying T = some (.pointer (P.pointee T)) := by simp [Program.pointee, hT.h]
 unfold Run
 simp [execOp, hx, hy, eqGuard_at_pointer, run_eql_pointer_nil w T _ hp]
theorem x_neq_ptr_nil {dst : Option Tmp} {x y : Operand} {T T' E : TypeId} [hT : TU P T (.pointer E)] {ad : Addr} (hx : ev n env x = .pointer (some ad)) (hy : ev n env y = .pointer none) :
  Run P n env ⟨dst, .binOp .neq T x y T', ty, pos, aft, g⟩ w (.ok (.value (.bool true)) w) := by
 have hp : P.underlying T = some (.pointer (P.pointee T)) := by simp [Program.pointee, hT.h]
 unfold Run
 simp [execOp, hx, hy, eqGuard_at_pointer, run_neq_pointer_nil w T _ hp]
theorem x_eql_nil_nil {dst : Option Tmp} {x y : Operand} {T T' E : TypeId} [hT : TU P T (.pointer E)] (hx : ev n env x = .pointer none) (hy : ev n env y = .pointer none) :
  Run P n env ⟨dst, .binOp .eql T x y T', ty, pos, aft, g⟩ w (.ok (.value (.bool true)) w) := by
 have hp : P.underlying T = some (.pointer (P.pointee T)) := by simp [Program.pointee, hT.h]
 unfold Run
 simp [execOp, hx, hy, eqGuard_at_pointer, run_eql_pointer_nil w T _ hp]
theorem x_neq_nil_nil {dst : Option Tmp} {x y : Operand} {T T' E : TypeId} [hT : TU P T (.pointer E)] (hx : ev n env x = .pointer none) (hy : ev n env y = .pointer none) :
  Run P n env ⟨dst, .binOp .neq T x y T', ty, pos, aft, g⟩ w (.ok (.value (.bool false)) w) := by
 have hp : P.underlying T = some (.pointer (P.pointee T)) := by simp [Program.pointee, hT.h]
 unfold Run
 simp [execOp, hx, hy, eqGuard_at_pointer, run_neq_pointer_nil w T _ hp]
theorem getD_lt {xs : List Int} {j : Nat} (h : j < xs.length) : xs.getD j 0 = xs[j] := by simp [List.getD, h]
theorem ints_set (k : IntKind) (xs : List Int) (j : Nat) (x : Int) : (ints k xs).set j (.int k x) = ints k (xs.set j x) := by simp [ints, List.map_set]
theorem x_load_bints {dst : Option Tmp} {T : TypeId} [TOne P T] {x : Operand} {b j : Nat} {E : TypeId} {fz : Nat × Nat} {k : IntKind} {xs : List Int} (hx : ev n env x = .pointer (some ⟨b, 0 + j, none⟩))
  (hb : Blk w b E fz (ints k xs)) (hj : j < xs.length) : Run P n env ⟨dst, .load T x, ty, pos, aft, g⟩ w (.ok (.value (.int k (xs.getD j 0))) w) :=
 x_load1 hx hb (by rw [Nat.zero_add]; exact ints_get k xs j hj)
theorem s_mv {x : Operand} {v : Value} (h : AtR P f n R (⟨some d, .move x, ty, pos, aft, none⟩ :: pre) rest k (upd env d (v)) w) (hx : ev n env x = v := by conv => lhs; whnf) :
  AtR P f n R pre (⟨some d, .move x, ty, pos, aft, none⟩ :: rest) k env w := s_val (x_move hx) h
theorem g_mv {x : Operand} {v : Value} (h : AtR P f n R (⟨some d, .move x, ty, pos, aft, g⟩ :: pre) rest k (upd env d (v)) w) (hx : ev n env x = v := by conv => lhs; whnf) :
  AtG P f n R pre ⟨some d, .move x, ty, pos, aft, g⟩ rest k env w := g_val (x_move hx) h
theorem s_as {x : Operand} {v : Value} (h : AtR P f n R (⟨some d, .assign x, ty, pos, aft, none⟩ :: pre) rest k (upd env d (v)) w) (hx : ev n env x = v := by conv => lhs; whnf) :
  AtR P f n R pre (⟨some d, .assign x, ty, pos, aft, none⟩ :: rest) k env w := s_val (x_assign hx) h
theorem g_as {x : Operand} {v : Value} (h : AtR P f n R (⟨some d, .assign x, ty, pos, aft, g⟩ :: pre) rest k (upd env d (v)) w) (hx : ev n env x = v := by conv => lhs; whnf) :
  AtG P f n R pre ⟨some d, .assign x, ty, pos, aft, g⟩ rest k env w := g_val (x_assign hx) h
theorem s_pt {c x y : Operand} {v : Value} (h : AtR P f n R (⟨some d, .pick c x y, ty, pos, aft, none⟩ :: pre) rest k (upd env d (v)) w) (hc : ev n env c = .bool true := by exact rfl) (hx : ev n env x = v := by conv => lhs; whnf) :
  AtR P f n R pre (⟨some d, .pick c x y, ty, pos, aft, none⟩ :: rest) k env w := s_val (x_pick_t hc hx) h
theorem g_pt {c x y : Operand} {v : Value} (h : AtR P f n R (⟨some d, .pick c x y, ty, pos, aft, g⟩ :: pre) rest k (upd env d (v)) w) (hc : ev n env c = .bool true := by exact rfl) (hx : ev n env x = v := by conv => lhs; whnf) :
  AtG P f n R pre ⟨some d, .pick c x y, ty, pos, aft, g⟩ rest k env w := g_val (x_pick_t hc hx) h
theorem s_pf {c x y : Operand} {v : Value} (h : AtR P f n R (⟨some d, .pick c x y, ty, pos, aft, none⟩ :: pre) rest k (upd env d (v)) w) (hc : ev n env c = .bool false := by exact rfl) (hx : ev n env y = v := by conv => lhs; whnf) :
  AtR P f n R pre (⟨some d, .pick c x y, ty, pos, aft, none⟩ :: rest) k env w := s_val (x_pick_f hc hx) h
theorem g_pf {c x y : Operand} {v : Value} (h : AtR P f n R (⟨some d, .pick c x y, ty, pos, aft, g⟩ :: pre) rest k (upd env d (v)) w) (hc : ev n env c = .bool false := by exact rfl) (hx : ev n env y = v := by conv => lhs; whnf) :
  AtG P f n R pre ⟨some d, .pick c x y, ty, pos, aft, g⟩ rest k env w := g_val (x_pick_f hc hx) h
theorem s_nt {x : Operand} {T : TypeId} {b b' : Bool} (h : AtR P f n R (⟨some d, .unOp .not T x, ty, pos, aft, none⟩ :: pre) rest k (upd env d (.bool b')) w) (hx : ev n env x = .bool b := by exact rfl) (hb : (!b) = b' := by conv => lhs; whnf) :
  AtR P f n R pre (⟨some d, .unOp .not T x, ty, pos, aft, none⟩ :: rest) k env w := s_val (by subst hb; exact x_not hx) h
theorem g_nt {x : Operand} {T : TypeId} {b b' : Bool} (h : AtR P f n R (⟨some d, .unOp .not T x, ty, pos, aft, g⟩ :: pre) rest k (upd env d (.bool b')) w) (hx : ev n env x = .bool b := by exact rfl) (hb : (!b) = b' := by conv => lhs; whnf) :
  AtG P f n R pre ⟨some d, .unOp .not T x, ty, pos, aft, g⟩ rest k env w := g_val (by subst hb; exact x_not hx) h
theorem s_ex {x : Operand} {i : Nat} {vs : List Value} {v : Value} (h : AtR P f n R (⟨some d, .extract x i, ty, pos, aft, none⟩ :: pre) rest k (upd env d (v)) w) (hx : ev n env x = .tuple vs.toArray := by exact rfl) (hv : vs[i]? = some v := by exact rfl) :
  AtR P f n R pre (⟨some d, .extract x i, ty, pos, aft, none⟩ :: rest) k env w := s_val (x_extract hx hv) h
theorem g_ex {x : Operand} {i : Nat} {vs : List Value} {v : Value} (h : AtR P f n R (⟨some d, .extract x i, ty, pos, aft, g⟩ :: pre) rest k (upd env d (v)) w) (hx : ev n env x = .tuple vs.toArray := by exact rfl) (hv : vs[i]? = some v := by exact rfl) :
  AtG P f n R pre ⟨some d, .extract x i, ty, pos, aft, g⟩ rest k env w := g_val (x_extract hx hv) h
theorem s_nc {x : Operand} {a : Addr} (h : AtR P f n R (⟨some d, .nilCheck x, ty, pos, aft, none⟩ :: pre) rest k (upd env d (.pointer (some a))) w) (hx : ev n env x = .pointer (some a) := by exact rfl) :
  AtR P f n R pre (⟨some d, .nilCheck x, ty, pos, aft, none⟩ :: rest) k env w := s_val (x_nilCheck hx) h
theorem g_nc {x : Operand} {a : Addr} (h : AtR P f n R (⟨some d, .nilCheck x, ty, pos, aft, g⟩ :: pre) rest k (upd env d (.pointer (some a))) w) (hx : ev n env x = .pointer (some a) := by exact rfl) :
  AtG P f n R pre ⟨some d, .nilCheck x, ty, pos, aft, g⟩ rest k env w := g_val (x_nilCheck hx) h
theorem s_fa {T : TypeId} {i o : Nat} [TFld P T i o] {x : Operand} {b off off' : Nat} (h : AtR P f n R (⟨some d, .fieldAddr T x i, ty, pos, aft, none⟩ :: pre) rest k (upd env d (.pointer (some ⟨b, off', none⟩))) w) (hx : ev n env x = .pointer (some ⟨b, off, none⟩) := by exact rfl) (ho : off + o = off' := by first | exact Nat.zero_add _ | exact Nat.add_zero _ | (simp only [Nat.reduceAdd] <;> rfl) | exact rfl) :
  AtR P f n R pre (⟨some d, .fieldAddr T x i, ty, pos, aft, none⟩ :: rest) k env w := s_val (x_fieldAddrN hx ho) h
theorem g_fa {T : TypeId} {i o : Nat} [TFld P T i o] {x : Operand} {b off off' : Nat} (h : AtR P f n R (⟨some d, .fieldAddr T x i, ty, pos, aft, g⟩ :: pre) rest k (upd env d (.pointer (some ⟨b, off', none⟩))) w) (hx : ev n env x = .pointer (some ⟨b, off, none⟩) := by exact rfl) (ho : off + o = off' := by first | exact Nat.zero_add _ | exact Nat.add_zero _ | (simp only [Nat.reduceAdd] <;> rfl) | exact rfl) :
  AtG P f n R pre ⟨some d, .fieldAddr T x i, ty, pos, aft, g⟩ rest k env w := g_val (x_fieldAddrN hx ho) h
theorem s_ld {T : TypeId} {x : Operand} {v : Value} (h : AtR P f n R (⟨some d, .load T x, ty, pos, aft, none⟩ :: pre) rest k (upd env d (v)) w) (hr : Run P n env ⟨some d, .load T x, ty, pos, aft, none⟩ w (.ok (.value v) w) := by first | exact x_load1 rfl (by assumption) rfl | exact x_load_bints rfl (by assumption) (by omega) | exact x_load_ints rfl (by assumption) (by omega) | exact x_load_flw rfl (by assumption) (by assumption) rfl | exact x_load_fl rfl (by assumption) rfl (by assumption) rfl | exact x_load_fl1 rfl (by assumption) rfl (by assumption)) :
  AtR P f n R pre (⟨some d, .load T x, ty, pos, aft, none⟩ :: rest) k env w := s_val (hr) h
theorem g_ld {T : TypeId} {x : Operand} {v : Value} (h : AtR P f n R (⟨some d, .load T x, ty, pos, aft, g⟩ :: pre) rest k (upd env d (v)) w) (hr : Run P n env ⟨some d, .load T x, ty, pos, aft, g⟩ w (.ok (.value v) w) := by first | exact x_load1 rfl (by assumption) rfl | exact x_load_bints rfl (by assumption) (by omega) | exact x_load_ints rfl (by assumption) (by omega) | exact x_load_flw rfl (by assumption) (by assumption) rfl | exact x_load_fl rfl (by assumption) rfl (by assumption) rfl | exact x_load_fl1 rfl (by assumption) rfl (by assumption)) :
  AtG P f n R pre ⟨some d, .load T x, ty, pos, aft, g⟩ rest k env w := g_val (hr) h
theorem s_ia {T : TypeId} {x ix : Operand} {v : Value} (h : AtR P f n R (⟨some d, .indexAddr T x ix, ty, pos, aft, none⟩ :: pre) rest k (upd env d (v)) w) (hr : Run P n env ⟨some d, .indexAddr T x ix, ty, pos, aft, none⟩ w (.ok (.value v) w) := by first | exact x_indexAddrN1 rfl rfl (by omega) | exact x_indexAddr1 rfl rfl (by omega) (by omega)) :
  AtR P f n R pre (⟨some d, .indexAddr T x ix, ty, pos, aft, none⟩ :: rest) k env w := s_val (hr) h
theorem g_ia {T : TypeId} {x ix : Operand} {v : Value} (h : AtR P f n R (⟨some d, .indexAddr T x ix, ty, pos, aft, g⟩ :: pre) rest k (upd env d (v)) w) (hr : Run P n env ⟨some d, .indexAddr T x ix, ty, pos, aft, g⟩ w (.ok (.value v) w) := by first | exact x_indexAddrN1 rfl rfl (by omega) | exact x_indexAddr1 rfl rfl (by omega) (by omega)) :
  AtG P f n R pre ⟨some d, .indexAddr T x ix, ty, pos, aft, g⟩ rest k env w := g_val (hr) h
theorem s_sl {T : TypeId} {x : Operand} {lo hi mx : Option Operand} {v : Value} (h : AtR P f n R (⟨some d, .slice T x lo hi mx, ty, pos, aft, none⟩ :: pre) rest k (upd env d (v)) w) (hr : Run P n env ⟨some d, .slice T x lo hi mx, ty, pos, aft, none⟩ w (.ok (.value v) w) := by first | exact x_slice_hN rfl (by assumption) rfl (by omega)) :
  AtR P f n R pre (⟨some d, .slice T x lo hi mx, ty, pos, aft, none⟩ :: rest) k env w := s_val (hr) h
theorem g_sl {T : TypeId} {x : Operand} {lo hi mx : Option Operand} {v : Value} (h : AtR P f n R (⟨some d, .slice T x lo hi mx, ty, pos, aft, g⟩ :: pre) rest k (upd env d (v)) w) (hr : Run P n env ⟨some d, .slice T x lo hi mx, ty, pos, aft, g⟩ w (.ok (.value v) w) := by first | exact x_slice_hN rfl (by assumption) rfl (by omega)) :
  AtG P f n R pre ⟨some d, .slice T x lo hi mx, ty, pos, aft, g⟩ rest k env w := g_val (hr) h
theorem s_ad {x y : Operand} {T T' : TypeId} {a b : Int} (h : AtR P f n R (⟨some d, .binOp .add T x y T', ty, pos, aft, none⟩ :: pre) rest k (upd env d (.int .i64 (a + b))) w) (hx : ev n env x = .int .i64 a := by exact rfl) (hy : ev n env y = .int .i64 b := by exact rfl) (h1 : -9223372036854775808 ≤ a + b := by omega) (h2 : a + b ≤ 9223372036854775807 := by omega) :
  AtR P f n R pre (⟨some d, .binOp .add T x y T', ty, pos, aft, none⟩ :: rest) k env w := s_val (x_add64 hx hy h1 h2) h
theorem g_ad {x y : Operand} {T T' : TypeId} {a b : Int} (h : AtR P f n R (⟨some d, .binOp .add T x y T', ty, pos, aft, g⟩ :: pre) rest k (upd env d (.int .i64 (a + b))) w) (hx : ev n env x = .int .i64 a := by exact rfl) (hy : ev n env y = .int .i64 b := by exact rfl) (h1 : -9223372036854775808 ≤ a + b := by omega) (h2 : a + b ≤ 9223372036854775807 := by omega) :
  AtG P f n R pre ⟨some d, .binOp .add T x y T', ty, pos, aft, g⟩ rest k env w := g_val (x_add64 hx hy h1 h2) h
theorem s_sb {x y : Operand} {T T' : TypeId} {a b : Int} (h : AtR P f n R (⟨some d, .binOp .sub T x y T', ty, pos, aft, none⟩ :: pre) rest k (upd env d (.int .i64 (a - b))) w) (hx : ev n env x = .int .i64 a := by exact rfl) (hy : ev n env y = .int .i64 b := by exact rfl) (h1 : -9223372036854775808 ≤ a - b := by omega) (h2 : a - b ≤ 9223372036854775807 := by omega) :
  AtR P f n R pre (⟨some d, .binOp .sub T x y T', ty, pos, aft, none⟩ :: rest) k env w := s_val (x_sub64 hx hy h1 h2) h
theorem g_sb {x y : Operand} {T T' : TypeId} {a b : Int} (h : AtR P f n R (⟨some d, .binOp .sub T x y T', ty, pos, aft, g⟩ :: pre) rest k (upd env d (.int .i64 (a - b))) w) (hx : ev n env x = .int .i64 a := by exact rfl) (hy : ev n env y = .int .i64 b := by exact rfl) (h1 : -9223372036854775808 ≤ a - b := by omega) (h2 : a - b ≤ 9223372036854775807 := by omega) :
  AtG P f n R pre ⟨some d, .binOp .sub T x y T', ty, pos, aft, g⟩ rest k env w := g_val (x_sub64 hx hy h1 h2) h
theorem s_ln {T : TypeId} {x : Operand} {v : Value} (h : AtR P f n R (⟨some d, .call ⟨.builtin .len, #[x], #[T]⟩, ty, pos, aft, none⟩ :: pre) rest k (upd env d (v)) w) (hr : Run P n env ⟨some d, .call ⟨.builtin .len, #[x], #[T]⟩, ty, pos, aft, none⟩ w (.ok (.value v) w) := by first | exact x_len_slice rfl | exact x_len_string rfl | exact x_len_array) :
  AtR P f n R pre (⟨some d, .call ⟨.builtin .len, #[x], #[T]⟩, ty, pos, aft, none⟩ :: rest) k env w := s_val (hr) h
theorem g_ln {T : TypeId} {x : Operand} {v : Value} (h : AtR P f n R (⟨some d, .call ⟨.builtin .len, #[x], #[T]⟩, ty, pos, aft, g⟩ :: pre) rest k (upd env d (v)) w) (hr : Run P n env ⟨some d, .call ⟨.builtin .len, #[x], #[T]⟩, ty, pos, aft, g⟩ w (.ok (.value v) w) := by first | exact x_len_slice rfl | exact x_len_string rfl | exact x_len_array) :
  AtG P f n R pre ⟨some d, .call ⟨.builtin .len, #[x], #[T]⟩, ty, pos, aft, g⟩ rest k env w := g_val (hr) h
theorem s_cv {S T : TypeId} {x : Operand} {k1 k2 ks : IntKind} {a a' : Int} [TU P S (.int ks)] [TU P T (.int k2)] (h : AtR P f n R (⟨some d, .convert S T x, ty, pos, aft, none⟩ :: pre) rest k (upd env d (.int k2 a')) w) (hx : ev n env x = .int k1 a := by exact rfl) (ha : k2.wrap a = a' := by first | exact wrap_in_i64 (by omega) (by omega) | exact rfl) :
  AtR P f n R pre (⟨some d, .convert S T x, ty, pos, aft, none⟩ :: rest) k env w := s_val (by subst ha; exact x_convert hx) h
theorem g_cv {S T : TypeId} {x : Operand} {k1 k2 ks : IntKind} {a a' : Int} [TU P S (.int ks)] [TU P T (.int k2)] (h : AtR P f n R (⟨some d, .convert S T x, ty, pos, aft, g⟩ :: pre) rest k (upd env d (.int k2 a')) w) (hx : ev n env x = .int k1 a := by exact rfl) (ha : k2.wrap a = a' := by first | exact wrap_in_i64 (by omega) (by omega) | exact rfl) :
  AtG P f n R pre ⟨some d, .convert S T x, ty, pos, aft, g⟩ rest k env w := g_val (by subst ha; exact x_convert hx) h
theorem s_lss {x y : Operand} {T T' : TypeId} {kk : IntKind} {a b : Int} {bv : Bool} (h : AtR P f n R (⟨some d, .binOp .lss T x y T', ty, pos, aft, none⟩ :: pre) rest k (upd env d (.bool bv)) w) (hx : ev n env x = .int kk a := by exact rfl) (hy : ev n env y = .int kk b := by exact rfl) (hd : decide (a < b) = bv := by first | exact decide_eq_true (by omega) | exact decide_eq_false (by omega) | exact decide_eq_true (by assumption) | exact decide_eq_false (by assumption)) :
  AtR P f n R pre (⟨some d, .binOp .lss T x y T', ty, pos, aft, none⟩ :: rest) k env w := s_val (by subst hd; exact x_lss hx hy) h
theorem g_lss {x y : Operand} {T T' : TypeId} {kk : IntKind} {a b : Int} {bv : Bool} (h : AtR P f n R (⟨some d, .binOp .lss T x y T', ty, pos, aft, g⟩ :: pre) rest k (upd env d (.bool bv)) w) (hx : ev n env x = .int kk a := by exact rfl) (hy : ev n env y = .int kk b := by exact rfl) (hd : decide (a < b) = bv := by first | exact decide_eq_true (by omega) | exact decide_eq_false (by omega) | exact decide_eq_true (by assumption) | exact decide_eq_false (by assumption)) :
  AtG P f n R pre ⟨some d, .binOp .lss T x y T', ty, pos, aft, g⟩ rest k env w := g_val (by subst hd; exact x_lss hx hy) h
theorem s_leq {x y : Operand} {T T' : TypeId} {kk : IntKind} {a b : Int} {bv : Bool} (h : AtR P f n R (⟨some d, .binOp .leq T x y T', ty, pos, aft, none⟩ :: pre) rest k (upd env d (.bool bv)) w) (hx : ev n env x = .int kk a := by exact rfl) (hy : ev n env y = .int kk b := by exact rfl) (hd : decide (a ≤ b) = bv := by first | exact decide_eq_true (by omega) | exact decide_eq_false (by omega) | exact decide_eq_true (by assumption) | exact decide_eq_false (by assumption)) :
  AtR P f n R pre (⟨some d, .binOp .leq T x y T', ty, pos, aft, none⟩ :: rest) k env w := s_val (by subst hd; exact x_leq hx hy) h
theorem g_leq {x y : Operand} {T T' : TypeId} {kk : IntKind} {a b : Int} {bv : Bool} (h : AtR P f n R (⟨some d, .binOp .leq T x y T', ty, pos, aft, g⟩ :: pre) rest k (upd env d (.bool bv)) w) (hx : ev n env x = .int kk a := by exact rfl) (hy : ev n env y = .int kk b := by exact rfl) (hd : decide (a ≤ b) = bv := by first | exact decide_eq_true (by omega) | exact decide_eq_false (by omega) | exact decide_eq_true (by assumption) | exact decide_eq_false (by assumption)) :
  AtG P f n R pre ⟨some d, .binOp .leq T x y T', ty, pos, aft, g⟩ rest k env w := g_val (by subst hd; exact x_leq hx hy) h
theorem s_gtr {x y : Operand} {T T' : TypeId} {kk : IntKind} {a b : Int} {bv : Bool} (h : AtR P f n R (⟨some d, .binOp .gtr T x y T', ty, pos, aft, none⟩ :: pre) rest k (upd env d (.bool bv)) w) (hx : ev n env x = .int kk a := by exact rfl) (hy : ev n env y = .int kk b := by exact rfl) (hd : decide (b < a) = bv := by first | exact decide_eq_true (by omega) | exact decide_eq_false (by omega) | exact decide_eq_true (by assumption) | exact decide_eq_false (by assumption)) :
  AtR P f n R pre (⟨some d, .binOp .gtr T x y T', ty, pos, aft, none⟩ :: rest) k env w := s_val (by subst hd; exact x_gtr hx hy) h
theorem g_gtr {x y : Operand} {T T' : TypeId} {kk : IntKind} {a b : Int} {bv : Bool} (h : AtR P f n R (⟨some d, .binOp .gtr T x y T', ty, pos, aft, g⟩ :: pre) rest k (upd env d (.bool bv)) w) (hx : ev n env x = .int kk a := by exact rfl) (hy : ev n env y = .int kk b := by exact rfl) (hd : decide (b < a) = bv := by first | exact decide_eq_true (by omega) | exact decide_eq_false (by omega) | exact decide_eq_true (by assumption) | exact decide_eq_false (by assumption)) :
  AtG P f n R pre ⟨some d, .binOp .gtr T x y T', ty, pos, aft, g⟩ rest k env w := g_val (by subst hd; exact x_gtr hx hy) h
theorem s_geq {x y : Operand} {T T' : TypeId} {kk : IntKind} {a b : Int} {bv : Bool} (h : AtR P f n R (⟨some d, .binOp .geq T x y T', ty, pos, aft, none⟩ :: pre) rest k (upd env d (.bool bv)) w) (hx : ev n env x = .int kk a := by exact rfl) (hy : ev n env y = .int kk b := by exact rfl) (hd : decide (b ≤ a) = bv := by first | exact decide_eq_true (by omega) | exact decide_eq_false (by omega) | exact decide_eq_true (by assumption) | exact decide_eq_false (by assumption)) :
  AtR P f n R pre (⟨some d, .binOp .geq T x y T', ty, pos, aft, none⟩ :: rest) k env w := s_val (by subst hd; exact x_geq hx hy) h
theorem g_geq {x y : Operand} {T T' : TypeId} {kk : IntKind} {a b : Int} {bv : Bool} (h : AtR P f n R (⟨some d, .binOp .geq T x y T', ty, pos, aft, g⟩ :: pre) rest k (upd env d (.bool bv)) w) (hx : ev n env x = .int kk a := by exact rfl) (hy : ev n env y = .int kk b := by exact rfl) (hd : decide (b ≤ a) = bv := by first | exact decide_eq_true (by omega) | exact decide_eq_false (by omega) | exact decide_eq_true (by assumption) | exact decide_eq_false (by assumption)) :
  AtG P f n R pre ⟨some d, .binOp .geq T x y T', ty, pos, aft, g⟩ rest k env w := g_val (by subst hd; exact x_geq hx hy) h
theorem s_eql {x y : Operand} {T T' : TypeId} {kk : IntKind} {a b : Int} {bv : Bool} (h : AtR P f n R (⟨some d, .binOp .eql T x y T', ty, pos, aft, none⟩ :: pre) rest k (upd env d (.bool bv)) w) (hx : ev n env x = .int kk a := by exact rfl) (hy : ev n env y = .int kk b := by exact rfl) (hd : decide (a = b) = bv := by first | exact decide_eq_true (by omega) | exact decide_eq_false (by omega) | exact decide_eq_true (by assumption) | exact decide_eq_false (by assumption)) :
  AtR P f n R pre (⟨some d, .binOp .eql T x y T', ty, pos, aft, none⟩ :: rest) k env w := s_val (by subst hd; exact x_eql hx hy) h
theorem g_eql {x y : Operand} {T T' : TypeId} {kk : IntKind} {a b : Int} {bv : Bool} (h : AtR P f n R (⟨some d, .binOp .eql T x y T', ty, pos, aft, g⟩ :: pre) rest k (upd env d (.bool bv)) w) (hx : ev n env x = .int kk a := by exact rfl) (hy : ev n env y = .int kk b := by exact rfl) (hd : decide (a = b) = bv := by first | exact decide_eq_true (by omega) | exact decide_eq_false (by omega) | exact decide_eq_true (by assumption) | exact decide_eq_false (by assumption)) :
  AtG P f n R pre ⟨some d, .binOp .eql T x y T', ty, pos, aft, g⟩ rest k env w := g_val (by subst hd; exact x_eql hx hy) h
theorem s_neq {x y : Operand} {T T' : TypeId} {kk : IntKind} {a b : Int} {bv : Bool} (h : AtR P f n R (⟨some d, .binOp .neq T x y T', ty, pos, aft, none⟩ :: pre) rest k (upd env d (.bool bv)) w) (hx : ev n env x = .int kk a := by exact rfl) (hy : ev n env y = .int kk b := by exact rfl) (hd : decide (a ≠ b) = bv := by first | exact decide_eq_true (by omega) | exact decide_eq_false (by omega) | exact decide_eq_true (by assumption) | exact decide_eq_false (by assumption)) :
  AtR P f n R pre (⟨some d, .binOp .neq T x y T', ty, pos, aft, none⟩ :: rest) k env w := s_val (by subst hd; exact x_neq hx hy) h
theorem g_neq {x y : Operand} {T T' : TypeId} {kk : IntKind} {a b : Int} {bv : Bool} (h : AtR P f n R (⟨some d, .binOp .neq T x y T', ty, pos, aft, g⟩ :: pre) rest k (upd env d (.bool bv)) w) (hx : ev n env x = .int kk a := by exact rfl) (hy : ev n env y = .int kk b := by exact rfl) (hd : decide (a ≠ b) = bv := by first | exact decide_eq_true (by omega) | exact decide_eq_false (by omega) | exact decide_eq_true (by assumption) | exact decide_eq_false (by assumption)) :
  AtG P f n R pre ⟨some d, .binOp .neq T x y T', ty, pos, aft, g⟩ rest k env w := g_val (by subst hd; exact x_neq hx hy) h
theorem s_eqlf {x y : Operand} {T T' : TypeId} {ks : List IntKind} [TFlat P T ks] {xs ys : List Int} {bv : Bool} (h : AtR P f n R (⟨some d, .binOp .eql T x y T', ty, pos, aft, none⟩ :: pre) rest k (upd env d (.bool bv)) w) (hx : ev n env x = .agg (mkI ks xs).toArray := by exact rfl) (hy : ev n env y = .agg (mkI ks ys).toArray := by exact rfl) (lx : xs.length = ks.length := by assumption) (ly : ys.length = ks.length := by assumption) (hd : decide (xs = ys) = bv := by first | exact decide_eq_true (by omega) | exact decide_eq_false (by omega) | exact decide_eq_true (by assumption) | exact decide_eq_false (by assumption)) :
  AtR P f n R pre (⟨some d, .binOp .eql T x y T', ty, pos, aft, none⟩ :: rest) k env w := s_val (by subst hd; exact x_eql_flat hx hy lx ly) h
theorem g_eqlf {x y : Operand} {T T' : TypeId} {ks : List IntKind} [TFlat P T ks] {xs ys : List Int} {bv : Bool} (h : AtR P f n R (⟨some d, .binOp .eql T x y T', ty, pos, aft, g⟩ :: pre) rest k (upd env d (.bool bv)) w) (hx : ev n env x = .agg (mkI ks xs).toArray := by exact rfl) (hy : ev n env y = .agg (mkI ks ys).toArray := by exact rfl) (lx : xs.length = ks.length := by assumption) (ly : ys.length = ks.length := by assumption) (hd : decide (xs = ys) = bv := by first | exact decide_eq_true (by omega) | exact decide_eq_false (by omega) | exact decide_eq_true (by assumption) | exact decide_eq_false (by assumption)) :
  AtG P f n R pre ⟨some d, .binOp .eql T x y T', ty, pos, aft, g⟩ rest k env w := g_val (by subst hd; exact x_eql_flat hx hy lx ly) h
theorem s_eqlp {x y : Operand} {T T' E : TypeId} [TU P T (.pointer E)] {ad : Addr} (h : AtR P f n R (⟨some d, .binOp .eql T x y T', ty, pos, aft, none⟩ :: pre) rest k (upd env d (.bool false)) w) (hx : ev n env x = .pointer (some ad) := by exact rfl) (hy : ev n env y = .pointer none := by exact rfl) :
  AtR P f n R pre (⟨some d, .binOp .eql T x y T', ty, pos, aft, none⟩ :: rest) k env w := s_val (x_eql_ptr_nil hx hy) h
theorem g_eqlp {x y : Operand} {T T' E : TypeId} [TU P T (.pointer E)] {ad : Addr} (h : AtR P f n R (⟨some d, .binOp .eql T x y T', ty, pos, aft, g⟩ :: pre) rest k (upd env d (.bool false)) w) (hx : ev n env x = .pointer (some ad) := by exact rfl) (hy : ev n env y = .pointer none := by exact rfl) :
  AtG P f n R pre ⟨some d, .binOp .eql T x y T', ty, pos, aft, g⟩ rest k env w := g_val (x_eql_ptr_nil hx hy) h
theorem s_eqln {x y : Operand} {T T' E : TypeId} [TU P T (.pointer E)] (h : AtR P f n R (⟨some d, .binOp .eql T x y T', ty, pos, aft, none⟩ :: pre) rest k (upd env d (.bool true)) w) (hx : ev n env x = .pointer none := by exact rfl) (hy : ev n env y = .pointer none := by exact rfl) :
  AtR P f n R pre (⟨some d, .binOp .eql T x y T', ty, pos, aft, none⟩ :: rest) k env w := s_val (x_eql_nil_nil hx hy) h
theorem g_eqln {x y : Operand} {T T' E : TypeId} [TU P T (.pointer E)] (h : AtR P f n R (⟨some d, .binOp .eql T x y T', ty, pos, aft, g⟩ :: pre) rest k (upd env d (.bool true)) w) (hx : ev n env x = .pointer none := by exact rfl) (hy : ev n env y = .pointer none := by exact rfl) :
  AtG P f n R pre ⟨some d, .binOp .eql T x y T', ty, pos, aft, g⟩ rest k env w := g_val (x_eql_nil_nil hx hy) h
theorem s_neqf {x y : Operand} {T T' : TypeId} {ks : List IntKind} [TFlat P T ks] {xs ys : List Int} {bv : Bool} (h : AtR P f n R (⟨some d, .binOp .neq T x y T', ty, pos, aft, none⟩ :: pre) rest k (upd env d (.bool bv)) w) (hx : ev n env x = .agg (mkI ks xs).toArray := by exact rfl) (hy : ev n env y = .agg (mkI ks ys).toArray := by exact rfl) (lx : xs.length = ks.length := by assumption) (ly : ys.length = ks.length := by assumption) (hd : decide (xs ≠ ys) = bv := by first | exact decide_eq_true (by omega) | exact decide_eq_false (by omega) | exact decide_eq_true (by assumption) | exact decide_eq_false (by assumption)) :
  AtR P f n R pre (⟨some d, .binOp .neq T x y T', ty, pos, aft, none⟩ :: rest) k env w := s_val (by subst hd; exact x_neq_flat hx hy lx ly) h
theorem g_neqf {x y : Operand} {T T' : TypeId} {ks : List IntKind} [TFlat P T ks] {xs ys : List Int} {bv : Bool} (h : AtR P f n R (⟨some d, .binOp .neq T x y T', ty, pos, aft, g⟩ :: pre) rest k (upd env d (.bool bv)) w) (hx : ev n env x = .agg (mkI ks xs).toArray := by exact rfl) (hy : ev n env y = .agg (mkI ks ys).toArray := by exact rfl) (lx : xs.length = ks.length := by assumption) (ly : ys.length = ks.length := by assumption) (hd : decide (xs ≠ ys) = bv := by first | exact decide_eq_true (by omega) | exact decide_eq_false (by omega) | exact decide_eq_true (by assumption) | exact decide_eq_false (by assumption)) :
  AtG P f n R pre ⟨some d, .binOp .neq T x y T', ty, pos, aft, g⟩ rest k env w := g_val (by subst hd; exact x_neq_flat hx hy lx ly) h
theorem s_neqp {x y : Operand} {T T' E : TypeId} [TU P T (.pointer E)] {ad : Addr} (h : AtR P f n R (⟨some d, .binOp .neq T x y T', ty, pos, aft, none⟩ :: pre) rest k (upd env d (.bool true)) w) (hx : ev n env x = .pointer (some ad) := by exact rfl) (hy : ev n env y = .pointer none := by exact rfl) :
  AtR P f n R pre (⟨some d, .binOp .neq T x y T', ty, pos, aft, none⟩ :: rest) k env w := s_val (x_neq_ptr_nil hx hy) h
theorem g_neqp {x y : Operand} {T T' E : TypeId} [TU P T (.pointer E)] {ad : Addr} (h : AtR P f n R (⟨some d, .binOp .neq T x y T', ty, pos, aft, g⟩ :: pre) rest k (upd env d (.bool true)) w) (hx : ev n env x = .pointer (some ad) := by exact rfl) (hy : ev n env y = .pointer none := by exact rfl) :
  AtG P f n R pre ⟨some d, .binOp .neq T x y T', ty, pos, aft, g⟩ rest k env w := g_val (x_neq_ptr_nil hx hy) h
theorem s_neqn {x y : Operand} {T T' E : TypeId} [TU P T (.pointer E)] (h : AtR P f n R (⟨some d, .binOp .neq T x y T', ty, pos, aft, none⟩ :: pre) rest k (upd env d (.bool false)) w) (hx : ev n env x = .pointer none := by exact rfl) (hy : ev n env y = .pointer none := by exact rfl) :
  AtR P f n R pre (⟨some d, .binOp .neq T x y T', ty, pos, aft, none⟩ :: rest) k env w := s_val (x_neq_nil_nil hx hy) h
theorem g_neqn {x y : Operand} {T T' E : TypeId} [TU P T (.pointer E)] (h : AtR P f n R (⟨some d, .binOp .neq T x y T', ty, pos, aft, g⟩ :: pre) rest k (upd env d (.bool false)) w) (hx : ev n env x = .pointer none := by exact rfl) (hy : ev n env y = .pointer none := by exact rfl) :
  AtG P f n R pre ⟨some d, .binOp .neq T x y T', ty, pos, aft, g⟩ rest k env w := g_val (x_neq_nil_nil hx hy) h
end
end Go.Kx
namespace Go.Kx
open Go
section
variable {P : Program} {f : Fm} {n : Nat} {R : Ending → World → Prop} {k : List Item} {env : Env} {w : World} {S : World → Prop} {ops : Array Oper} {dst : Option Tmp} {ty : TypeId} {pos : String} {aft : Array Edge}
 {g : Option (Nat × Bool)} {pre rest : List Oper}
theorem G_skip {o : Oper} {Q : World → Prop} (h : ∃ w', Run P n env o w (.ok .skip w') ∧ Q w') (hk : ∀ w', Q w' → AtR P f n R (o :: pre) rest k (updo env o.dst undef) w') : AtG P f n R pre o rest k env w := by
 obtain ⟨w', hr, hq⟩ := h; exact AtG_skip hr (hk w' hq)
theorem G_val {o : Oper} {Q : Value → World → Prop} (h : ∃ v w', Run P n env o w (.ok (.value v) w') ∧ Q v w') (hk : ∀ v w', Q v w' → AtR P f n R (o :: pre) rest k (updo env o.dst v) w') : AtG P f n R pre o rest k env w := by
 obtain ⟨v, w', hr, hq⟩ := h; exact AtG_value hr (hk v w' hq)
theorem H_skip {fuel : Nat} {listed : Array Bool} (i : Nat) {o : Oper} {Q : World → Prop} (hi : ops[i]? = some o) (hr : Region.ready .any ops listed = [i]) (hg : gsays ops n env o true)
  (h : ∃ w', Run P n env o w (.ok .skip w') ∧ Q w') (hk : ∀ w', Q w' → S w' ∧ AtH P f n R ops S k fuel (listed.setIfInBounds i true) (updo env o.dst undef) w') : AtH P f n R ops S k (fuel + 1) listed env w := by
 obtain ⟨w', hrun, hq⟩ := h; exact AtH_skip i hi hr hg hrun (hk w' hq).1 (hk w' hq).2
theorem H_val {fuel : Nat} {listed : Array Bool} (i : Nat) {o : Oper} {Q : Value → World → Prop} (hi : ops[i]? = some o) (hr : Region.ready .any ops listed = [i]) (hg : gsays ops n env o true)
  (h : ∃ v w', Run P n env o w (.ok (.value v) w') ∧ Q v w') (hk : ∀ v w', Q v w' → S w' ∧ AtH P f n R ops S k fuel (listed.setIfInBounds i true) (updo env o.dst v) w') : AtH P f n R ops S k (fuel + 1) listed env w := by
 obtain ⟨v, w', hrun, hq⟩ := h; exact AtH_val i hi hr hg hrun (hk v w' hq).1 (hk v w' hq).2
theorem r_store1 {T : TypeId} {s : Nat} [hs : TSz P T s] {x y : Operand} {b off : Nat} {E : TypeId} {cs : List Value} {v : Value} (hx : ev n env x = .pointer (some ⟨b, off, none⟩))
  (hy : ev n env y = v) (hb : Blk w b E (0, 0) cs) (ho : off < cs.length) (hv : one v = true) (h1 : s = 1) :
  ∃ w', Run P n env ⟨dst, .store T x y, ty, pos, aft, g⟩ w (.ok .skip w') ∧ Eff w w' b (.cells (cs.set off v).toArray E (0, 0)) := by
 subst h1
 have hcells : v.cells = #[v] := by cases v <;> simp_all [one, Value.cells]
 refine ⟨w.setCell ⟨b, off, none⟩ v, ?_, eff_setCell hb v⟩
 unfold Run
 simp [execOp, Instr.storeAt, hx, hy, Instr.sureAddr, storeVar, run_sizeOf hs.h, hcells, storeCells, add_none, run_store_one hb ho hv]
theorem r_store_bints {T : TypeId} {s : Nat} [hs : TSz P T s] {x y : Operand} {b j : Nat} {E : TypeId} {kk : IntKind} {xs : List Int} {v : Int} (hx : ev n env x = .pointer (some ⟨b, 0 + j, none⟩))
  (hy : ev n env y = .int kk v) (hb : Blk w b E (0, 0) (ints kk xs)) (ho : j < xs.length) (h1 : s = 1) :
  ∃ w', Run P n env ⟨dst, .store T x y, ty, pos, aft, g⟩ w (.ok .skip w') ∧ Eff w w' b (.cells (ints kk (xs.set j v)).toArray E (0, 0)) := by
 have h := r_store1 (P := P) (w := w) (dst := dst) (ty := ty) (pos := pos) (aft := aft) (g := g) (T := T) hx hy hb (by simpa using ho) rfl h1
 rw [Nat.zero_add, ints_set] at h
 exact h
theorem r_storeN {T : TypeId} {s : Nat} [hs : TSz P T s] {x y : Operand} {b off : Nat} {E : TypeId} {cs vs : List Value} (hx : ev n env x = .pointer (some ⟨b, off, none⟩))
  (hy : ev n env y = .agg vs.toArray) (hb : Blk w b E (0, 0) cs) (hl : vs.length = s) (ho : off + s ≤ cs.length) (h1 : vs.all (·.oneCell') = true) :
  ∃ w', Run P n env ⟨dst, .store T x y, ty, pos, aft, g⟩ w (.ok .skip w') ∧ Eff w w' b (.cells (lay cs off vs).toArray E (0, 0)) := by
 obtain ⟨w', hr, hw⟩ := run_storeCells_eff (P := P) (b := b) (off := off) (E := E) vs 0 cs w hb (by omega) (fun v hv => (List.all_eq_true.1 h1) v hv)
 refine ⟨w', ?_, hw⟩
 unfold Run
 simp [execOp, Instr.storeAt, hx, hy, Instr.sureAddr, storeVar, run_sizeOf hs.h, Value.cells, hl, hr]
theorem r_append {T tx E : TypeId} {z : Value} {s y : Nat} [hT : TU P T (.slice E)] [TZ P E z] [TSz P E s] [TBy P E y]
  {xd xs : Operand} {a : Option Addr} {m cap : Nat} {cs : List Value} {x : Value} {j : Nat} {news : List Value} (hd : ev n env xd = .slice a m cap) (hv : ev n env xs = x)
  (ho : Own w E s a m cap cs) (hx : Src P s tx x j news w) (hz : z.cells.size = s) (hs : 0 < s)
  (h63 : m + j ≤ maxLen) (hby : (m + j) * y ≤ 140737488355328) :
  ∃ v w', Run P n env ⟨dst, .call ⟨.builtin .append, #[xd, xs], #[T, tx]⟩, ty, pos, aft, g⟩ w (.ok (.value v) w') ∧
   ∃ a' cap', v = .slice a' (m + j) cap' ∧ Own w' E s a' (m + j) cap' (cs ++ news) ∧ Kp (blkOf a) w w' ∧ (a' = a ∨ ∃ b, a' = some ⟨b, 0, none⟩ ∧ w.heap.size ≤ b) := by
 obtain ⟨a', cap', w', hr, h1, h2, h3⟩ := run_append_own' (P := P) (ty := ty) (T := T) (tx := tx) hz hs ho hx h63 hby
 refine ⟨_, w', ?_, a', cap', rfl, h1, h2, h3⟩
 unfold Run
 simp [execOp, resolve, invoke, builtin, hd, hv, hr]
theorem r_buildSlice1 {T E : TypeId} {z : Value} {len : Nat} [hT : TU P T (.slice E)] [hZ : TZ P E z] [hS : TSz P E 1]
  {os : List Operand} {parts : List (Nat × Operand)} {vs : List Value} (hp : parts = os.zipIdx.map (fun p => (p.2, p.1))) (hl : os.length = len) (hlen : len ≤ 16777216) (hz : one z = true)
  (hv : os.map (ev n env) = vs) (h1 : vs.all one = true) :
  ∃ v w', Run P n env ⟨dst, .buildSlice T len parts.toArray, ty, pos, aft, g⟩ w (.ok (.value v) w') ∧ ∃ b, v = .slice (some ⟨b, 0, none⟩) len len ∧ b = w.heap.size ∧ Eff w w' b (.cells vs.toArray E (0, 0)) :=
 ⟨_, _, run_buildSlice1 hp hl hlen hz hv h1, _, rfl, rfl, eff_push w _⟩
structure Sl (w : World) (k : IntKind) (a : Option Addr) (len cap : Nat) (xs : List Int) : Prop where
 len_eq : xs.length = len
 le : len ≤ cap
 max : cap ≤ 9223372036854775807
 mem : (a = none ∧ cap = 0) ∨ ∃ b off, a = some ⟨b, off, none⟩ ∧ b < w.heap.size ∧ Seg w b off (ints k xs)
theorem Seg.kp {S : Nat → Prop} {w w' : World} {b off : Nat} {vs : List Value} (h : Seg w b off vs) (hk : Kp S w w') (hb : ¬ S b) (hl : b < w.heap.size) : Seg w' b off vs := fun j hj => by
 rw [← h j hj]; exact World.cell?_of_block (hk.keep b hb hl)
theorem Sl.kp {S : Nat → Prop} {w w' : World} {k : IntKind} {a : Option Addr} {len cap : Nat} {xs : List Int} (h : Sl w k a len cap xs) (hk : Kp S w w') (hb : ∀ j, blkOf a j → ¬ S j) : Sl w' k a len cap xs := by
 refine ⟨h.len_eq, h.le, h.max, h.mem.imp id ?_⟩
 rintro ⟨b, off, rfl, hl, hs⟩
 exact ⟨b, off, rfl, Nat.lt_of_lt_of_le hl hk.size, hs.kp hk (hb b rfl) hl⟩
theorem Sl.kpn {w w' : World} {k : IntKind} {a : Option Addr} {len cap : Nat} {xs : List Int} (h : Sl w k a len cap xs) (hk : Kp No w w') : Sl w' k a len cap xs := h.kp hk fun _ _ => id
theorem Sl.lt {w : World} {k : IntKind} {a : Option Addr} {len cap : Nat} {xs : List Int} (h : Sl w k a len cap xs) : ∀ j, blkOf a j → j < w.heap.size := by
 rcases h.mem with ⟨rfl, _⟩ | ⟨b, off, rfl, hl, _⟩
 ·intro j hj; simp [blkOf] at hj
 ·intro j hj; simp [blkOf] at hj; omega
theorem Sl.take {w : World} {k : IntKind} {a : Option Addr} {len cap : Nat} {xs : List Int} (h : Sl w k a len cap xs) (m : Nat) (hm : m ≤ len) : Sl w k a m cap (xs.take m) := by
 have hl := h.len_eq
 refine ⟨by simp; omega, Nat.le_trans hm h.le, h.max, h.mem.imp id ?_⟩
 rintro ⟨b, off, rfl, hl, hs⟩
 refine ⟨b, off, rfl, hl, fun j hj => ?_⟩
 simp at hj
 rw [hs j (by simp; omega)]
 simp [ints, hj]
theorem Own.sl {w : World} {E : TypeId} {k : IntKind} {a : Option Addr} {m cap : Nat} {xs : List Int} (h : Own w E 1 a m cap (ints k xs)) : Sl w k a m cap xs := by
 obtain ⟨h1, h2, h3, h4⟩ := h
 refine ⟨by simpa using h1, h2, by simpa [maxLen] using h3, h4.imp id ?_⟩
 rintro ⟨b, sp, rfl, hB, hl⟩
 refine ⟨b, 0, rfl, hB.lt, fun j hj => ?_⟩
 rw [Nat.zero_add, hB.cell, List.getElem?_append_left (by simpa using hj)]
theorem Blk.sl {w : World} {b : Nat} {E : TypeId} {fz : Nat × Nat} {k : IntKind} {xs : List Int} {m : Nat} (h : Blk w b E fz (ints k xs)) (hm : xs.length = m) (hx : m ≤ 9223372036854775807) : Sl w k (some ⟨b, 0, none⟩) m m xs :=
 ⟨hm, Nat.le_refl _, hx, .inr ⟨b, 0, rfl, h.lt, fun j hj => by rw [Nat.zero_add, h.cell]⟩⟩
theorem Sl.src {w : World} {k : IntKind} {a : Option Addr} {len cap : Nat} {xs : List Int} {T E : TypeId} (h : Sl w k a len cap xs) (hT : P.underlying T = some (.slice E)) : Src P 1 T (.slice a len cap) len (ints k xs) w := by
 have hl := h.len_eq
 rcases h.mem with ⟨rfl, hc⟩ | ⟨b, off, rfl, hlt, hs⟩
 ·have : len = 0 := by have := h.le; omega
  subst this
  have : xs = [] := List.eq_nil_of_length_eq_zero hl
  subst this
  exact Src.ofNil w hT cap
 ·refine Src.ofSlice w hT ⟨b, off, none⟩ len cap (ints k xs) (by simp [hl]) (fun j u hj => ?_) (fun u hu => ?_)
  ·rw [add_none, hs j (List.getElem?_eq_some_iff.1 hj).1, hj]
  ·simp only [ints, List.mem_map] at hu
   obtain ⟨x, _, rfl⟩ := hu
   rfl
theorem x_slice_hN {T E : TypeId} {s : Nat} [hT : TU P T (.slice E)] [hs : TSz P E s] {x hi : Operand} {a : Option Addr} {len cap : Nat} {kh : IntKind} {m : Nat}
  (hx : ev n env x = .slice a len cap) (ha : ∀ ad, a = some ad → ad.spot = none) (hh : ev n env hi = .int kh (m : Int)) (h2 : m ≤ cap) :
  Run P n env ⟨dst, .slice T x none (some hi) none, ty, pos, aft, g⟩ w (.ok (.value (.slice a m cap)) w) := by
 have h := x_slice_h' (P := P) (w := w) (dst := dst) (ty := ty) (pos := pos) (aft := aft) (g := g) (T := T) hx ha hh (by omega) (by omega)
 rwa [Int.toNat_natCast] at h
theorem Sl.spot {w : World} {k : IntKind} {a : Option Addr} {len cap : Nat} {xs : List Int} (h : Sl w k a len cap xs) : ∀ ad, a = some ad → ad.spot = none := by
 rcases h.mem with ⟨rfl, _⟩ | ⟨b, off, rfl, _, _⟩
 ·intro ad h; cases h
 ·intro ad h; cases h; rfl
end
end Go.Kx
namespace Go.Kx
open Go
theorem rem_nn {a b : Int} (h : 0 ≤ a) : a.tmod b = a % b := Int.tmod_eq_emod_of_nonneg h
theorem rem_lt {a b : Int} (h : 0 < b) : a.tmod b < b := Int.tmod_lt_of_pos a h
theorem rem_gt {a b : Int} (h : 0 < b) : -b < a.tmod b := Int.lt_tmod_of_pos a h
end Go.Kx
namespace Go.Kx
open Go
theorem open_flat {P : Program} {w : World} {r : Reach} {base T : Nat} {v : Value} {ks : List IntKind} {ts : List TypeId} [hT : TFlat P T ks] (h : Value.okWide P w r base T v)
  (ht : P.cellTypes P.depth T = some ts) (hk : ts.map (fun u => P.underlying u) = ks.map (fun k => some (TypeDesc.int k))) (hc : P.cellsOf T = ks.length) :
  ∃ xs, v = .agg (mkI ks xs).toArray ∧ ks.length = xs.length ∧ ∀ (i : Nat) (k : IntKind), ks[i]? = some k → k.has (xs.getD i 0) := by
 have ha := hT.a
 unfold isAggB at ha
 unfold Value.okWide at h
 have hagg : ∃ cs, v = .agg cs ∧ cs.size = P.cellsOf T ∧ Row.okWide P w r base T cs := by
  cases hu : P.underlying T with
  | none => simp [hu] at ha
  | some d => cases d <;> simp only [hu] at ha h <;> first | exact h | simp at ha
 obtain ⟨cs, rfl, hsz, ts', ht', ⟨m, hm⟩, hcs⟩ := hagg
 rw [ht] at ht'
 injection ht' with ht'
 subst ht'
 have hlen : ts.length = ks.length := by have := congrArg List.length hk; simpa using this
 have hsz' : cs.size = ks.length := by rw [hsz, hc]
 have key : ∀ (i : Nat) (k : IntKind), ks[i]? = some k → ∃ x : Int, cs[i]? = some (Value.int k x) ∧ k.has x := by
  intro i k hi
  have hlt : i < ks.length := (List.getElem?_eq_some_iff.1 hi).1
  obtain ⟨v, hv⟩ : ∃ v, cs[i]? = some v := ⟨cs[i]'(by omega), by simp [show i < cs.size by omega]⟩
  obtain ⟨u, hu, hok⟩ := hcs i v hv
  rw [Nat.mod_eq_of_lt (by omega)] at hu
  have h1 := congrArg (fun l : List (Option TypeDesc) => l[i]?) hk
  simp only [List.getElem?_map, hu, hi, Option.map_some, Option.some.injEq] at h1
  unfold Cell.okWide at hok
  rw [h1] at hok
  simp only [Cell.ok, h1] at hok
  split at hok <;> first | exact hok.elim | (rename_i h2 _; simp at h2; done) | skip
  all_goals simp_all
 let nth : Nat → Int := fun i => match cs[i]? with | some (.int _ x) => x | _ => 0
 refine ⟨(List.range ks.length).map nth, ?_, by simp, ?_⟩
 ·congr 1
  apply Array.ext'
  apply List.ext_getElem?
  intro i
  rcases Nat.lt_or_ge i ks.length with hlt | hge
  ·obtain ⟨x, hx, _⟩ := key i ks[i] (by simp [hlt])
   have hn : nth i = x := by simp only [nth, hx]
   rw [show cs.toList[i]? = some (.int ks[i] x) by simpa using hx]
   simp [mkI, hlt, hn]
  ·have h1 : cs.toList[i]? = none := by simp; omega
   rw [h1]
   simp [mkI, List.getElem?_zipWith, List.getElem?_eq_none hge]
 ·intro i k hi
  obtain ⟨x, hx, hh⟩ := key i k hi
  have hlt : i < ks.length := (List.getElem?_eq_some_iff.1 hi).1
  have hn : nth i = x := by simp only [nth, hx]
  simp [List.getD, hlt, hn, hh]
theorem in_ints {P : Program} {w : World} {H : Type} {enc : TypeId × Value → H} {r : Reach} {base : Nat} {T E : TypeId} {k : IntKind} {a : Option Addr} {len cap : Nat} {d : DataW H} {p : List MemPlace}
  (ht : P.underlying T = some (.slice E)) (he : P.underlying E = some (.int k)) (hc : P.cellsOf E = 1) (hok : Value.okWide P w r base T (.slice a len cap))
  (h : DataW.Trod enc P w 0 (fun _ => true) true T (.slice a len cap) d p) : ∃ xs, Sl w k a len cap xs ∧ ∀ x ∈ xs, (Lit.int k x).wf = true := by
 simp only [Value.okWide, ht, Cell.okWide, Cell.ok] at hok
 obtain ⟨fuel, hf⟩ := h
 rcases ChangeShapes.open_ints ht he hc hf with ⟨hcs, _⟩ | ⟨x, l, c, zs, hcs, _, hl, hm, hz, _, hcell, hwz⟩
 ·simp [Value.cells] at hcs
  obtain ⟨rfl, rfl, rfl⟩ := hcs
  exact ⟨[], ⟨rfl, Nat.le_refl _, by omega, .inl ⟨rfl, rfl⟩⟩, fun x hx => by cases hx⟩
 ·simp [Value.cells] at hcs
  obtain ⟨rfl, rfl, rfl⟩ := hcs
  obtain ⟨_, hmax, _, hsp, row, cells, hshape, _⟩ := hok
  obtain ⟨b, off, spot⟩ := x
  simp only at hsp
  subst hsp
  have hz' : zs.length = cap := by simpa using hz
  have hlt : b < w.heap.size := by
   unfold World.shape? at hshape
   split at hshape
   ·rename_i hh; exact (Array.getElem?_eq_some_iff.1 hh).1
   ·cases hshape
  refine ⟨zs.take len, ⟨by simp; omega, hl, by simpa [maxLen] using hm, .inr ⟨b, off, rfl, hlt, fun j hj => ?_⟩⟩, fun x hx => hwz x (List.mem_of_mem_take hx)⟩
  have hj' : j < len ∧ j < zs.length := by simp at hj; omega
  have := hcell j hj'.2
  rw [add_none] at this
  rw [this, ints_get _ _ _ (by simp; omega)]
  simp [List.getD, hj'.1]
theorem wf_i64 {x : Int} (h : (Lit.int .i64 x).wf = true) : -9223372036854775808 ≤ x ∧ x ≤ 9223372036854775807 := by
 have h1 : IntKind.i64.min = -9223372036854775808 := rfl
 simpa [Lit.wf, h1] using h
theorem wf_bounds {k : IntKind} {x : Int} (h : (Lit.int k x).wf = true) : k.min ≤ x ∧ x ≤ k.max := by
 simpa [Lit.wf] using h
end Go.Kx
namespace Go.Kx
open Go
structure SlB (w : World) (a : Option Addr) (len cap : Nat) (bs : List Bool) : Prop where
 len_eq : bs.length = len
 le : len ≤ cap
 max : cap ≤ 9223372036854775807
 mem : (a = none ∧ cap = 0) ∨ ∃ b off, a = some ⟨b, off, none⟩ ∧ b < w.heap.size ∧ Seg w b off (bs.map Value.bool)
theorem SlB.kp {S : Nat → Prop} {w w' : World} {a : Option Addr} {len cap : Nat} {bs : List Bool} (h : SlB w a len cap bs) (hk : Kp S w w') (hb : ∀ j, blkOf a j → ¬ S j) : SlB w' a len cap bs := by
 refine ⟨h.len_eq, h.le, h.max, h.mem.imp id ?_⟩
 rintro ⟨b, off, rfl, hl, hs⟩
 exact ⟨b, off, rfl, Nat.lt_of_lt_of_le hl hk.size, hs.kp hk (hb b rfl) hl⟩
theorem SlB.kpn {w w' : World} {a : Option Addr} {len cap : Nat} {bs : List Bool} (h : SlB w a len cap bs) (hk : Kp No w w') : SlB w' a len cap bs := h.kp hk fun _ _ => id
theorem SlB.lt {w : World} {a : Option Addr} {len cap : Nat} {bs : List Bool} (h : SlB w a len cap bs) : ∀ j, blkOf a j → j < w.heap.size := by
 rcases h.mem with ⟨rfl, _⟩ | ⟨b, off, rfl, hl, _⟩
 ·intro j hj; simp [blkOf] at hj
 ·intro j hj; simp [blkOf] at hj; omega
theorem x_load_seg {P : Program} {n : Nat} {env : Env} {w : World} {dst : Option Tmp} {ty : TypeId} {pos : String} {aft : Array Edge} {g : Option (Nat × Bool)} {T : TypeId} [TOne P T] {x : Operand} {b off j : Nat} {vs : List Value} {v : Value}
  (hx : ev n env x = .pointer (some ⟨b, off + j, none⟩)) (hs : Seg w b off vs) (hj : vs[j]? = some v) :
  Run P n env ⟨dst, .load T x, ty, pos, aft, g⟩ w (.ok (.value v) w) := by
 unfold Run
 simp [execOp, hx, Instr.loadAt, Instr.sureAddr, run_load_cell (P := P) (T := T) ((hs j (List.getElem?_eq_some_iff.1 hj).1).trans hj)]
theorem in_bools {P : Program} {w : World} {H : Type} {enc : TypeId × Value → H} {r : Reach} {base : Nat} {T E : TypeId} {a : Option Addr} {len cap : Nat} {d : DataW H} {p : List MemPlace}
  (ht : P.underlying T = some (.slice E)) (he : P.underlying E = some .bool) (hc : P.cellsOf E = 1) (hok : Value.okWide P w r base T (.slice a len cap))
  (h : DataW.Trod enc P w 0 (fun _ => true) true T (.slice a len cap) d p) : ∃ bs, SlB w a len cap bs := by
 simp only [Value.okWide, ht, Cell.okWide, Cell.ok] at hok
 obtain ⟨fuel, hf⟩ := h
 rcases DataW.trod_slice ht hf with ⟨hcs, _⟩ | ⟨x, l, c, elems, rest, n, _, hcs, _, _, hl, hm, hlen, hel, _⟩
 ·simp [Value.cells] at hcs
  obtain ⟨rfl, rfl, rfl⟩ := hcs
  exact ⟨[], rfl, Nat.le_refl _, by omega, .inl ⟨rfl, rfl⟩⟩
 ·simp [Value.cells] at hcs
  obtain ⟨rfl, rfl, rfl⟩ := hcs
  obtain ⟨_, hmax, _, hsp, row, cells, hshape, _⟩ := hok
  obtain ⟨b, off, spot⟩ := x
  simp only at hsp
  subst hsp
  have hlt : b < w.heap.size := by
   unfold World.shape? at hshape
   split at hshape
   ·rename_i hh; exact (Array.getElem?_eq_some_iff.1 hh).1
   ·cases hshape
  have key : ∀ i, i < len → ∃ t : Bool, w.cell? ⟨b, off + i, none⟩ = some (.bool t) := by
   intro i hi
   have h1 := hel i hi
   have hy : elems[i]? = some (elems[i]'(by omega)) := by simp
   rw [hc, Nat.mul_one, hy, Option.bind_eq_some_iff] at h1
   obtain ⟨cs', hcs, hy'⟩ := h1
   obtain ⟨t, rfl, _⟩ := DataW.trod_bool he hy'
   have h2 := ChangeShapes.cell_of_cells?_one hcs
   rw [add_none] at h2
   exact ⟨t, h2⟩
  let nth : Nat → Bool := fun i => match w.cell? ⟨b, off + i, none⟩ with | some (.bool t) => t | _ => false
  refine ⟨(List.range len).map nth, by simp, hl, by simpa [maxLen] using hm, .inr ⟨b, off, rfl, hlt, fun j hj => ?_⟩⟩
  have hj' : j < len := by simpa using hj
  obtain ⟨t, ht'⟩ := key j hj'
  have hn : nth j = t := by simp only [nth, ht']
  rw [ht']
  simp [hj', hn]
theorem sl_tail {P : Program} {n : Nat} {env : Env} {w : World} {dst : Option Tmp} {ty : TypeId} {pos : String} {aft : Array Edge} {g : Option (Nat × Bool)} {T E : TypeId} [hT : TU P T (.slice E)] [hs : TSz P E 1] {x lo : Operand}
  {b off len cap : Nat} {k kl : IntKind} {xs : List Int} (h : Sl w k (some ⟨b, off, none⟩) len cap xs) (h0 : 0 < len) (hx : ev n env x = .slice (some ⟨b, off, none⟩) len cap) (hh : ev n env lo = .int kl 1) :
  ∃ off', Run P n env ⟨dst, .slice T x (some lo) none none, ty, pos, aft, g⟩ w (.ok (.value (.slice (some ⟨b, off', none⟩) (len - 1) (cap - 1))) w) ∧ Sl w k (some ⟨b, off', none⟩) (len - 1) (cap - 1) (xs.drop 1) := by
 have hl := h.len_eq
 have hc := h.le
 have hm := h.max
 rcases h.mem with ⟨h1, _⟩ | ⟨b', o', h1, hlt, hseg⟩
 ·cases h1
 cases h1
 by_cases hcap : 1 < cap
 ·refine ⟨off + 1, ?_, by simp; omega, by omega, by omega, .inr ⟨b, off + 1, rfl, hlt, fun j hj => ?_⟩⟩
  ·have := x_slice_l (P := P) (w := w) (dst := dst) (ty := ty) (pos := pos) (aft := aft) (g := g) (T := T) hx hh (by omega) (by omega) (by omega)
   simpa using this
  ·simp at hj
   have := hseg (1 + j) (by simp; omega)
   rw [show off + 1 + j = off + (1 + j) by omega, this]
   simp [ints, Nat.add_comm]
 ·have hc1 : cap = 1 := by omega
  have hl1 : len = 1 := by omega
  subst hc1
  subst hl1
  refine ⟨off, ?_, by simp; omega, by omega, by omega, .inr ⟨b, off, rfl, hlt, fun j hj => ?_⟩⟩
  ·have hb : (Instr.sliceBound (.int kl 1) 1 .sliceB).run P w = .ok 1 w := run_sliceBound w kl 1 1 _ (by omega) (by omega)
   unfold Run
   simp [execOp, hx, hh, Instr.sliceAt, Instr.slice, run_underlying hT.h, Instr.sliceBounds, hb, run_sizeOf hs.h]
  ·simp at hj; omega
theorem r_tail {P : Program} {n : Nat} {env : Env} {w : World} {dst : Option Tmp} {ty : TypeId} {pos : String} {aft : Array Edge} {g : Option (Nat × Bool)} {T E : TypeId} [hT : TU P T (.slice E)] [hs : TSz P E 1] {x lo : Operand}
  {b off len cap : Nat} {k kl : IntKind} {xs : List Int} (h : Sl w k (some ⟨b, off, none⟩) len cap xs) (h0 : 0 < len) (hx : ev n env x = .slice (some ⟨b, off, none⟩) len cap) (hh : ev n env lo = .int kl 1) :
  ∃ v w', Run P n env ⟨dst, .slice T x (some lo) none none, ty, pos, aft, g⟩ w (.ok (.value v) w') ∧ ∃ off', v = .slice (some ⟨b, off', none⟩) (len - 1) (cap - 1) ∧ Sl w k (some ⟨b, off', none⟩) (len - 1) (cap - 1) (xs.drop 1) ∧ w = w' := by
 obtain ⟨off', hr, hl⟩ := sl_tail (P := P) (dst := dst) (ty := ty) (pos := pos) (aft := aft) (g := g) (T := T) h h0 hx hh
 exact ⟨_, _, hr, off', rfl, hl, rfl⟩
end Go.Kx
namespace Go.Kx
open Go
section
attribute [local semireducible] At AtR AtG Run AtH
variable {P : Program} {f : Fm} {n : Nat} {R : Ending → World → Prop} {k : List Item} {env : Env} {w : World} {S : World → Prop} {ops : Array Oper}
theorem wpOp_val {fuel : Nat} {listed : Array Bool} {i : Nat} {o : Oper} {v : Value} {w' : World} (hi : ops[i]? = some o) (hg : gsays ops n env o true)
  (hrun : Run P n env o w (.ok (.value v) w')) (hS : S w') (h : AtH P f n R ops S k fuel (listed.setIfInBounds i true) (updo env o.dst v) w') :
  wpOp P ops (AtQ P f n R k) i (fun a' w' => S w' ∧ wpAnyH P .any ops (AtQ P f n R k) S fuel (listed.setIfInBounds i true) a' w') (mkF f n env) w := by
 unfold wpOp
 simp only [hi]
 rw [if_pos (wanted_gsays hg)]
 refine .inl ?_
 unfold Run at hrun
 unfold Oper.wp
 rw [eval_mkF, hrun]
 simp only [Oper.upon, mkF_put]
 exact ⟨hS, h⟩
theorem AtH_pair {fuel : Nat} {listed : Array Bool} (i j : Nat) {o u : Oper} (hi : ops[i]? = some o) (hj : ops[j]? = some u) (hr : Region.ready .any ops listed = [i, j]) (gi : gsays ops n env o true) (gj : gsays ops n env u true)
  (h1 : ∃ v w', Run P n env o w (.ok (.value v) w') ∧ S w' ∧ AtH P f n R ops S k fuel (listed.setIfInBounds i true) (updo env o.dst v) w')
  (h2 : ∃ v w', Run P n env u w (.ok (.value v) w') ∧ S w' ∧ AtH P f n R ops S k fuel (listed.setIfInBounds j true) (updo env u.dst v) w') :
  AtH P f n R ops S k (fuel + 1) listed env w :=
 wpAnyH_all hr (by simp) (fun l hl => by
  rcases List.mem_cons.1 hl with rfl | hl
  ·obtain ⟨v, w', a, b, c⟩ := h1
   exact wpOp_val hi gi a b c
  ·obtain rfl : l = j := by simpa using hl
   obtain ⟨v, w', a, b, c⟩ := h2
   exact wpOp_val hj gj a b c)
theorem AtH_pairQ {fuel : Nat} {listed : Array Bool} (i j : Nat) {o u : Oper} {Q1 Q2 : Value → World → Prop} (hi : ops[i]? = some o) (hj : ops[j]? = some u) (hr : Region.ready .any ops listed = [i, j]) (gi : gsays ops n env o true) (gj : gsays ops n env u true)
  (h1 : ∃ v w', Run P n env o w (.ok (.value v) w') ∧ Q1 v w') (h2 : ∃ v w', Run P n env u w (.ok (.value v) w') ∧ Q2 v w')
  (k1 : ∀ v w', Q1 v w' → S w' ∧ AtH P f n R ops S k fuel (listed.setIfInBounds i true) (updo env o.dst v) w')
  (k2 : ∀ v w', Q2 v w' → S w' ∧ AtH P f n R ops S k fuel (listed.setIfInBounds j true) (updo env u.dst v) w') :
  AtH P f n R ops S k (fuel + 1) listed env w := by
 obtain ⟨v1, w1, r1, q1⟩ := h1
 obtain ⟨v2, w2, r2, q2⟩ := h2
 exact AtH_pair i j hi hj hr gi gj ⟨v1, w1, r1, k1 _ _ q1⟩ ⟨v2, w2, r2, k2 _ _ q2⟩
end
end Go.Kx
namespace Go.Kx
open Go
structure SlE (w : World) (k : IntKind) (a : Option Addr) (len cap : Nat) (xs : List Int) (D : Nat → Prop) : Prop where
 len_eq : xs.length = len
 le : len ≤ cap
 max : cap ≤ 9223372036854775807
 mem : cap = 0 ∨ ∃ b off, a = some ⟨b, off, none⟩ ∧ b < w.heap.size ∧ D b ∧ Seg w b off (ints k xs)
theorem SlE.kp {S D : Nat → Prop} {w w' : World} {k : IntKind} {a : Option Addr} {len cap : Nat} {xs : List Int} (h : SlE w k a len cap xs D) (hk : Kp S w w') (hb : ∀ b, D b → ¬ S b) : SlE w' k a len cap xs D := by
 refine ⟨h.len_eq, h.le, h.max, h.mem.imp id ?_⟩
 rintro ⟨b, off, rfl, hl, hd, hs⟩
 exact ⟨b, off, rfl, Nat.lt_of_lt_of_le hl hk.size, hd, hs.kp hk (hb b hd) hl⟩
theorem SlE.kpn {D : Nat → Prop} {w w' : World} {k : IntKind} {a : Option Addr} {len cap : Nat} {xs : List Int} (h : SlE w k a len cap xs D) (hk : Kp No w w') : SlE w' k a len cap xs D := h.kp hk fun _ _ => id
theorem SlE.mono {D D' : Nat → Prop} {w : World} {k : IntKind} {a : Option Addr} {len cap : Nat} {xs : List Int} (h : SlE w k a len cap xs D) (hd : ∀ b, b < w.heap.size → D b → D' b) : SlE w k a len cap xs D' := by
 refine ⟨h.len_eq, h.le, h.max, h.mem.imp id ?_⟩
 rintro ⟨b, off, rfl, hl, hD, hs⟩
 exact ⟨b, off, rfl, hl, hd b hl hD, hs⟩
theorem Sl.e {D : Nat → Prop} {w : World} {k : IntKind} {a : Option Addr} {len cap : Nat} {xs : List Int} (h : Sl w k a len cap xs) (hd : ∀ b, blkOf a b → D b) : SlE w k a len cap xs D := by
 refine ⟨h.len_eq, h.le, h.max, h.mem.imp (fun h => h.2) ?_⟩
 rintro ⟨b, off, rfl, hl, hs⟩
 exact ⟨b, off, rfl, hl, hd b rfl, hs⟩
theorem SlE.sl {D : Nat → Prop} {w : World} {k : IntKind} {b off len cap : Nat} {xs : List Int} (h : SlE w k (some ⟨b, off, none⟩) len cap xs D) (h0 : 0 < len) : Sl w k (some ⟨b, off, none⟩) len cap xs := by
 refine ⟨h.len_eq, h.le, h.max, .inr ?_⟩
 rcases h.mem with h1 | ⟨b', off', e, hl, _, hs⟩
 ·have := h.le; omega
 ·exact ⟨b', off', e, hl, hs⟩
end Go.Kx
namespace Go.Kx
open Go
structure ActC where
 kind : Int
 a : Option Addr
 len : Nat
 cap : Nat
 xs : List Int
instance : Inhabited ActC := ⟨0, none, 0, 0, []⟩
def actCells (x : ActC) : List Value := [.int .i64 x.kind, .slice x.a x.len x.cap]
structure SlA (w : World) (a : Option Addr) (len cap : Nat) (as : List ActC) (D : Nat → Prop) : Prop where
 len_eq : as.length = len
 le : len ≤ cap
 max : cap ≤ 9223372036854775807
 mem : cap = 0 ∨ ∃ b off, a = some ⟨b, off, none⟩ ∧ b < w.heap.size ∧ D b ∧ ∀ j, j < len → Seg w b (off + j * 2) (actCells (as.getD j default))
 inner : ∀ x ∈ as, SlE w .i64 x.a x.len x.cap x.xs D ∧ -9223372036854775808 ≤ x.kind ∧ x.kind ≤ 9223372036854775807 ∧ ∀ n ∈ x.xs, (Lit.int .i64 n).wf = true
theorem SlA.kp {S D : Nat → Prop} {w w' : World} {a : Option Addr} {len cap : Nat} {as : List ActC} (h : SlA w a len cap as D) (hk : Kp S w w') (hb : ∀ b, D b → ¬ S b) : SlA w' a len cap as D := by
 refine ⟨h.len_eq, h.le, h.max, h.mem.imp id ?_, fun x hx => ⟨(h.inner x hx).1.kp hk hb, (h.inner x hx).2⟩⟩
 rintro ⟨b, off, rfl, hl, hd, hs⟩
 exact ⟨b, off, rfl, Nat.lt_of_lt_of_le hl hk.size, hd, fun j hj => (hs j hj).kp hk (hb b hd) hl⟩
theorem SlA.kpn {D : Nat → Prop} {w w' : World} {a : Option Addr} {len cap : Nat} {as : List ActC} (h : SlA w a len cap as D) (hk : Kp No w w') : SlA w' a len cap as D := h.kp hk fun _ _ => id
theorem SlA.get {D : Nat → Prop} {w : World} {a : Option Addr} {len cap : Nat} {as : List ActC} (h : SlA w a len cap as D) {j : Nat} (hj : j < len) :
  ∃ b off, a = some ⟨b, off, none⟩ ∧ ∃ x : ActC, as[j]? = some x ∧ Seg w b (off + j * 2) (actCells x) ∧ SlE w .i64 x.a x.len x.cap x.xs D ∧ (-9223372036854775808 ≤ x.kind ∧ x.kind ≤ 9223372036854775807) ∧ ∀ n ∈ x.xs, (Lit.int .i64 n).wf = true := by
 have hl := h.len_eq
 rcases h.mem with h0 | ⟨b, off, rfl, _, _, hs⟩
 ·have := h.le; omega
 have e : as.getD j default = as[j] := by simp [List.getD, show j < as.length by omega]
 have hx := h.inner _ (List.getElem_mem (show j < as.length by omega))
 have h1 := hs j hj
 rw [e] at h1
 exact ⟨b, off, rfl, as[j], by simp, h1, hx.1, ⟨hx.2.1, hx.2.2.1⟩, hx.2.2.2⟩
theorem x_load_segN {P : Program} {n : Nat} {env : Env} {w : World} {dst : Option Tmp} {ty : TypeId} {pos : String} {aft : Array Edge} {g : Option (Nat × Bool)} {T : TypeId} {s : Nat} [hT : TAgg P T s] {x : Operand} {b off : Nat} {vs : List Value}
  (hx : ev n env x = .pointer (some ⟨b, off, none⟩)) (hs : Seg w b off vs) (hl : vs.length = s) :
  Run P n env ⟨dst, .load T x, ty, pos, aft, g⟩ w (.ok (.value (.agg vs.toArray)) w) := by
 have h := run_loadCells_list (P := P) w ⟨b, off, none⟩ vs (fun j v hj => by
  rw [add_none, hs j (List.getElem?_eq_some_iff.1 hj).1, hj])
 rw [hl] at h
 unfold Run
 simp [execOp, hx, Instr.loadAt, Instr.sureAddr, loadVar, run_isAgg_agg, run_sizeOf hT.hs, h]
theorem inner_ints {P : Program} {w : World} {H : Type} {enc : TypeId × Value → H} {T E : TypeId} {k : IntKind} {fuel : Nat} {cs : List Value} {y : DataW H × List MemPlace}
  (ht : P.underlying T = some (.slice E)) (he : P.underlying E = some (.int k)) (hc : P.cellsOf E = 1)
  (h : DataW.trod enc P w 0 (fun _ => true) true fuel T cs = some y) : ∃ a len cap xs, cs = [.slice a len cap] ∧ SlE w k a len cap xs (fun b => b < w.heap.size) ∧ ∀ x ∈ xs, (Lit.int k x).wf = true := by
 rcases ChangeShapes.open_ints ht he hc h with ⟨rfl, _⟩ | ⟨x, l, c, zs, rfl, _, hl, hm, hz, _, hcell, hwz⟩
 ·exact ⟨none, 0, 0, [], rfl, ⟨rfl, Nat.le_refl _, by omega, .inl rfl⟩, fun x hx => by cases hx⟩
 ·have hz' : zs.length = c := by simpa using hz
  refine ⟨_, _, _, zs.take l, rfl, ⟨by simp; omega, hl, by simpa [maxLen] using hm, ?_⟩, fun x hx => hwz x (List.mem_of_mem_take hx)⟩
  by_cases h0 : c = 0
  ·exact .inl h0
  right
  have h1 := hcell 0 (by omega)
  obtain ⟨b, off, spot⟩ := x
  have hspot : spot = none := by simpa [Addr.add] using World.cell?_spot h1
  subst hspot
  have hlt : b < w.heap.size := by
   rw [add_none] at h1
   unfold World.cell? at h1
   rcases Nat.lt_or_ge b w.heap.size with hh | hh
   ·exact hh
   ·rw [Array.getElem?_eq_none hh] at h1; simp at h1
  refine ⟨b, off, rfl, hlt, hlt, fun j hj => ?_⟩
  have hj' : j < l ∧ j < zs.length := by simp at hj; omega
  have := hcell j hj'.2
  rw [add_none] at this
  rw [this, ints_get _ _ _ (by simp; omega)]
  simp [List.getD, hj'.1]
theorem in_acts {P : Program} {w : World} {H : Type} {enc : TypeId × Value → H} {r : Reach} {base : Nat} {T E TI E0 : TypeId} {f0 f1 : Field} {a : Option Addr} {len cap : Nat} {d : DataW H} {p : List MemPlace}
  (ht : P.underlying T = some (.slice E)) (hE : P.underlying E = some (.struct #[f0, f1])) (hc : P.cellsOf E = 2) (o0 : f0.offset = 0) (o1 : f1.offset = 1)
  (t0 : P.underlying f0.type = some (.int .i64)) (c0 : P.cellsOf f0.type = 1) (e1 : f1.type = TI) (t1 : P.underlying TI = some (.slice E0)) (c1 : P.cellsOf TI = 1) (he : P.underlying E0 = some (.int .i64)) (hc0 : P.cellsOf E0 = 1)
  (hok : Value.okWide P w r base T (.slice a len cap))
  (h : DataW.Trod enc P w 0 (fun _ => true) true T (.slice a len cap) d p) : ∃ as, SlA w a len cap as (fun b => b < w.heap.size) := by
 subst e1
 simp only [Value.okWide, ht, Cell.okWide, Cell.ok] at hok
 obtain ⟨fuel, hf⟩ := h
 rcases DataW.trod_slice ht hf with ⟨hcs, _⟩ | ⟨x, l, c, elems, rest, n, _, hcs, _, _, hl, hm, hlen, hel, _⟩
 ·simp [Value.cells] at hcs
  obtain ⟨rfl, rfl, rfl⟩ := hcs
  exact ⟨[], rfl, Nat.le_refl _, by omega, .inl rfl, fun x hx => by cases hx⟩
 ·simp [Value.cells] at hcs
  obtain ⟨rfl, rfl, rfl⟩ := hcs
  obtain ⟨_, hmax, _, hsp, row, cells, hshape, _⟩ := hok
  obtain ⟨b, off, spot⟩ := x
  simp only at hsp
  subst hsp
  have hlt : b < w.heap.size := by
   unfold World.shape? at hshape
   split at hshape
   ·rename_i hh; exact (Array.getElem?_eq_some_iff.1 hh).1
   ·cases hshape
  have key : ∀ i, i < len → ∃ x : ActC, Seg w b (off + i * 2) (actCells x) ∧ (SlE w .i64 x.a x.len x.cap x.xs (fun b => b < w.heap.size) ∧ -9223372036854775808 ≤ x.kind ∧ x.kind ≤ 9223372036854775807 ∧ ∀ n ∈ x.xs, (Lit.int .i64 n).wf = true) := by
   intro i hi
   have h1 := hel i hi
   have hy : elems[i]? = some (elems[i]'(by omega)) := by simp
   rw [hc, hy, Option.bind_eq_some_iff] at h1
   obtain ⟨cs', hcs, hy'⟩ := h1
   obtain ⟨y0, y1, m, _, hln, h2, h3⟩ := ChangeShapes.trod_struct2 hE hy'
   rw [o0, c0] at h2
   rw [o1, c1] at h3
   obtain ⟨v, hv, _, hw⟩ := DataW.trod_int t0 h2
   obtain ⟨a', len', cap', xs, hcs1, hsl, hwf⟩ := inner_ints t1 he hc0 h3
   rw [hc] at hln
   obtain ⟨_, _, hcell⟩ := World.cells?_some hcs
   match cs', hln with
   | [u0, u1], _ =>
    simp at hv hcs1
    subst hv
    subst hcs1
    refine ⟨⟨v, a', len', cap', xs⟩, fun j hj => ?_, hsl, (wf_i64 hw).1, (wf_i64 hw).2, hwf⟩
    have hj2 : j < 2 := by simpa [actCells] using hj
    have h4 := hcell j hj2
    rw [add_none, add_none] at h4
    exact h4
  let nth : Nat → ActC := fun i => if hi : i < len then (key i hi).choose else default
  have hnth : ∀ i (hi : i < len), nth i = (key i hi).choose := fun i hi => by simp only [nth, dif_pos hi]
  refine ⟨(List.range len).map nth, by simp, hl, by simpa [maxLen] using hm, .inr ⟨b, off, rfl, hlt, hlt, fun j hj => ?_⟩, fun x hx => ?_⟩
  ·have e : ((List.range len).map nth).getD j default = nth j := by simp [List.getD, hj]
   rw [e, hnth j hj]
   exact (key j hj).choose_spec.1
  ·simp at hx
   obtain ⟨j, hj, rfl⟩ := hx
   rw [hnth j hj]
   exact (key j hj).choose_spec.2
end Go.Kx
namespace Go.Kx
open Go
def uw (a : BitVec 64) : Int := (a.toNat : Int)
def ub (b : UInt8) : Int := (b.toNat : Int)
def ws (l : List (BitVec 64)) : List Int := l.map uw
def bs8 (l : List UInt8) : List Int := l.map ub
@[simp] theorem ws_length (l : List (BitVec 64)) : (ws l).length = l.length := by simp [ws]
@[simp] theorem bs8_length (l : List UInt8) : (bs8 l).length = l.length := by simp [bs8]
theorem ws_get {l : List (BitVec 64)} {i : Nat} (h : i < l.length) : (ws l).getD i 0 = uw (l.getD i 0) := by simp [ws, List.getD, h]
theorem bs8_get {l : List UInt8} {i : Nat} (h : i < l.length) : (bs8 l).getD i 0 = ub (l.getD i 0) := by simp [bs8, List.getD, h]
theorem ws_set (l : List (BitVec 64)) (i : Nat) (a : BitVec 64) : (ws l).set i (uw a) = ws (l.set i a) := by simp [ws, List.map_set]
theorem bs8_set (l : List UInt8) (i : Nat) (a : UInt8) : (bs8 l).set i (ub a) = bs8 (l.set i a) := by simp [bs8, List.map_set]
theorem ws_app (l m : List (BitVec 64)) : ws (l ++ m) = ws l ++ ws m := by simp [ws]
theorem bs8_app (l m : List UInt8) : bs8 (l ++ m) = bs8 l ++ bs8 m := by simp [bs8]
theorem uw_bd (a : BitVec 64) : 0 ≤ uw a ∧ uw a < 18446744073709551616 := by
 have := a.isLt
 unfold uw; omega
theorem ub_bd (b : UInt8) : 0 ≤ ub b ∧ ub b < 256 := by
 have := b.toNat_lt
 unfold ub; omega
theorem uw_inj {a b : BitVec 64} : uw a = uw b ↔ a = b := by
 constructor
 ·intro h; exact BitVec.eq_of_toNat_eq (by unfold uw at h; omega)
 ·rintro rfl; rfl
theorem ub_inj {a b : UInt8} : ub a = ub b ↔ a = b := by
 constructor
 ·intro h; exact UInt8.toNat_inj.1 (by unfold ub at h; omega)
 ·rintro rfl; rfl
theorem wrap_u64 (m : Int) : IntKind.u64.wrap m = m % 18446744073709551616 := by simp [IntKind.wrap, IntKind.bits, IntKind.signed]
theorem wrap_u8 (m : Int) : IntKind.u8.wrap m = m % 256 := by simp [IntKind.wrap, IntKind.bits, IntKind.signed]
theorem ofInt_uw (a : BitVec 64) : BitVec.ofInt 64 (uw a) = a := by
 unfold uw
 rw [BitVec.ofInt_natCast]
 simp
theorem wrap_uw (a : BitVec 64) : IntKind.u64.wrap (a.toNat : Int) = uw a := by
 have := a.isLt
 rw [wrap_u64]; unfold uw; omega
theorem ofInt_ub (a : UInt8) : BitVec.ofInt 8 (ub a) = a.toBitVec := by
 unfold ub
 rw [BitVec.ofInt_natCast]
 simp
theorem wrap_ub (a : UInt8) : IntKind.u8.wrap (a.toBitVec.toNat : Int) = ub a := by
 have := a.toNat_lt
 rw [wrap_u8]; unfold ub
 simp only [UInt8.toNat_toBitVec]; omega
section
variable {P : Program} {n : Nat} {env : Env} {w : World} {dst : Option Tmp} {ty : TypeId} {pos : String} {aft : Array Edge} {g : Option (Nat × Bool)}
theorem x_xorW {x y : Operand} {T T' : TypeId} {a b : BitVec 64} (hx : ev n env x = .int .u64 (uw a)) (hy : ev n env y = .int .u64 (uw b)) :
  Run P n env ⟨dst, .binOp .xor T x y T', ty, pos, aft, g⟩ w (.ok (.value (.int .u64 (uw (a ^^^ b)))) w) := by
 unfold Run
 simp only [execOp, hx, hy]
 simp [eqGuard, binOp, Op.intBits, IntKind.bits, ofInt_uw, - BitVec.toNat_xor, wrap_uw]
 rfl
theorem x_andW {x y : Operand} {T T' : TypeId} {a b : BitVec 64} (hx : ev n env x = .int .u64 (uw a)) (hy : ev n env y = .int .u64 (uw b)) :
  Run P n env ⟨dst, .binOp .and T x y T', ty, pos, aft, g⟩ w (.ok (.value (.int .u64 (uw (a &&& b)))) w) := by
 unfold Run
 simp only [execOp, hx, hy]
 simp [eqGuard, binOp, Op.intBits, IntKind.bits, ofInt_uw, - BitVec.toNat_and, wrap_uw]
 rfl
theorem x_orW {x y : Operand} {T T' : TypeId} {a b : BitVec 64} (hx : ev n env x = .int .u64 (uw a)) (hy : ev n env y = .int .u64 (uw b)) :
  Run P n env ⟨dst, .binOp .or T x y T', ty, pos, aft, g⟩ w (.ok (.value (.int .u64 (uw (a ||| b)))) w) := by
 unfold Run
 simp only [execOp, hx, hy]
 simp [eqGuard, binOp, Op.intBits, IntKind.bits, ofInt_uw, - BitVec.toNat_or, wrap_uw]
 rfl
theorem x_addW {x y : Operand} {T T' : TypeId} {a b : BitVec 64} (hx : ev n env x = .int .u64 (uw a)) (hy : ev n env y = .int .u64 (uw b)) :
  Run P n env ⟨dst, .binOp .add T x y T', ty, pos, aft, g⟩ w (.ok (.value (.int .u64 (uw (a + b)))) w) := by
 have h := x_add (P := P) (w := w) (dst := dst) (ty := ty) (pos := pos) (aft := aft) (g := g) (T := T) (T' := T') hx hy
 have e : IntKind.u64.wrap (uw a + uw b) = uw (a + b) := by
  rw [wrap_u64]; unfold uw; rw [BitVec.toNat_add]; omega
 rw [e] at h; exact h
theorem x_mulW {x y : Operand} {T T' : TypeId} {a b : BitVec 64} (hx : ev n env x = .int .u64 (uw a)) (hy : ev n env y = .int .u64 (uw b)) :
  Run P n env ⟨dst, .binOp .mul T x y T', ty, pos, aft, g⟩ w (.ok (.value (.int .u64 (uw (a * b)))) w) := by
 have h := x_mul (P := P) (w := w) (dst := dst) (ty := ty) (pos := pos) (aft := aft) (g := g) (T := T) (T' := T') hx hy
 have e : IntKind.u64.wrap (uw a * uw b) = uw (a * b) := by
  rw [wrap_u64]; unfold uw; rw [BitVec.toNat_mul, ← Int.natCast_mul]; omega
 rw [e] at h; exact h
theorem x_shlW {x y : Operand} {T T' : TypeId} {a : BitVec 64} {k : IntKind} {m : Int} (hx : ev n env x = .int .u64 (uw a)) (hy : ev n env y = .int k m) (hm : 0 ≤ m) :
  Run P n env ⟨dst, .binOp .shl T x y T', ty, pos, aft, g⟩ w (.ok (.value (.int .u64 (uw (a <<< m.toNat)))) w) := by
 have h0 : ¬ m < 0 := by omega
 have e : IntKind.u64.wrap (uw a * 2 ^ min m.toNat 64) = uw (a <<< m.toNat) := by
  rw [wrap_u64]; unfold uw; rw [BitVec.toNat_shiftLeft, Nat.shiftLeft_eq]
  rcases Nat.le_total m.toNat 64 with h | h
  ·rw [Nat.min_eq_left h]
   have e1 : ((a.toNat * 2 ^ m.toNat : Nat) : Int) = (a.toNat : Int) * 2 ^ m.toNat := by rw [Int.natCast_mul, Int.natCast_pow]; rfl
   rw [← e1]; omega
  ·rw [Nat.min_eq_right h]
   have h1 : (2 : Nat) ^ m.toNat = 2 ^ 64 * 2 ^ (m.toNat - 64) := by rw [← Nat.pow_add]; congr 1; omega
   rw [h1, ← Nat.mul_assoc, Nat.mul_right_comm, Nat.mul_mod_left]
   omega
 unfold Run
 simp only [execOp, hx, hy]
 simp [eqGuard, binOp, Op.shift, IntKind.bits, h0, e]
theorem x_shrW {x y : Operand} {T T' : TypeId} {a : BitVec 64} {k : IntKind} {m : Int} (hx : ev n env x = .int .u64 (uw a)) (hy : ev n env y = .int k m) (hm : 0 ≤ m) :
  Run P n env ⟨dst, .binOp .shr T x y T', ty, pos, aft, g⟩ w (.ok (.value (.int .u64 (uw (a >>> m.toNat)))) w) := by
 have h0 : ¬ m < 0 := by omega
 have e : (uw a).fdiv (2 ^ min m.toNat 64) = uw (a >>> m.toNat) := by
  have hlt := a.isLt
  unfold uw; rw [BitVec.toNat_ushiftRight, Nat.shiftRight_eq_div_pow]
  rw [Int.fdiv_eq_ediv_of_nonneg _ (by exact_mod_cast Nat.zero_le _)]
  rcases Nat.le_total m.toNat 64 with h | h
  ·rw [Nat.min_eq_left h]
   have e1 : ((2 ^ m.toNat : Nat) : Int) = 2 ^ m.toNat := by rw [Int.natCast_pow]; rfl
   rw [← e1, ← Int.natCast_ediv]
  ·rw [Nat.min_eq_right h]
   have h1 : (2 : Nat) ^ 64 ≤ 2 ^ m.toNat := Nat.pow_le_pow_right (by omega) h
   rw [Nat.div_eq_of_lt (by omega)]
   omega
 unfold Run
 simp only [execOp, hx, hy]
 simp [eqGuard, binOp, Op.shift, IntKind.bits, h0, e]
theorem x_conv_bw {S T : TypeId} {x : Operand} {ks : IntKind} {a : UInt8} [hS : TU P S (.int ks)] [hT : TU P T (.int .u64)] (hx : ev n env x = .int .u8 (ub a)) :
  Run P n env ⟨dst, .convert S T x, ty, pos, aft, g⟩ w (.ok (.value (.int .u64 (uw (BitVec.ofNat 64 a.toNat)))) w) := by
 have h := x_convert (P := P) (w := w) (dst := dst) (ty := ty) (pos := pos) (aft := aft) (g := g) (S := S) (T := T) hx
 have e : IntKind.u64.wrap (ub a) = uw (BitVec.ofNat 64 a.toNat) := by
  rw [wrap_u64]; unfold uw ub; rw [BitVec.toNat_ofNat]; omega
 rw [e] at h; exact h
def lowb (a : BitVec 64) : UInt8 := UInt8.ofBitVec (a.setWidth 8)
theorem x_conv_wb {S T : TypeId} {x : Operand} {ks : IntKind} {a : BitVec 64} [hS : TU P S (.int ks)] [hT : TU P T (.int .u8)] (hx : ev n env x = .int .u64 (uw a)) :
  Run P n env ⟨dst, .convert S T x, ty, pos, aft, g⟩ w (.ok (.value (.int .u8 (ub (lowb a)))) w) := by
 have h := x_convert (P := P) (w := w) (dst := dst) (ty := ty) (pos := pos) (aft := aft) (g := g) (S := S) (T := T) hx
 have e : IntKind.u8.wrap (uw a) = ub (lowb a) := by
  rw [wrap_u8]; unfold uw ub lowb; simp
 rw [e] at h; exact h
theorem x_conv_iw {S T : TypeId} {x : Operand} {ks k : IntKind} {a : Nat} [hS : TU P S (.int ks)] [hT : TU P T (.int .u64)] (hx : ev n env x = .int k (a : Int)) :
  Run P n env ⟨dst, .convert S T x, ty, pos, aft, g⟩ w (.ok (.value (.int .u64 (uw (BitVec.ofNat 64 a)))) w) := by
 have h := x_convert (P := P) (w := w) (dst := dst) (ty := ty) (pos := pos) (aft := aft) (g := g) (S := S) (T := T) hx
 have e : IntKind.u64.wrap (a : Int) = uw (BitVec.ofNat 64 a) := by
  rw [wrap_u64]; unfold uw; rw [BitVec.toNat_ofNat]; omega
 rw [e] at h; exact h
theorem x_xorB {x y : Operand} {T T' : TypeId} {a b : UInt8} (hx : ev n env x = .int .u8 (ub a)) (hy : ev n env y = .int .u8 (ub b)) :
  Run P n env ⟨dst, .binOp .xor T x y T', ty, pos, aft, g⟩ w (.ok (.value (.int .u8 (ub (a ^^^ b)))) w) := by
 have e : IntKind.u8.wrap ((a.toBitVec ^^^ b.toBitVec).toNat : Int) = ub (a ^^^ b) := by rw [← UInt8.toBitVec_xor]; exact wrap_ub _
 unfold Run
 simp only [execOp, hx, hy]
 simp only [eqGuard, binOp, Op.intBits, IntKind.bits, ofInt_ub]
 simp
 exact e
theorem x_neg {x : Operand} {T : TypeId} {k : IntKind} {a : Int} (hx : ev n env x = .int k a) :
  Run P n env ⟨dst, .unOp .neg T x, ty, pos, aft, g⟩ w (.ok (.value (.int k (k.wrap (0 - a)))) w) := by
 unfold Run
 simp [execOp, hx, Op.unary, Op.intArith]
end
end Go.Kx
namespace Go.Kx
open Go
section
variable {P : Program} {n : Nat} {env : Env} {w : World} {dst : Option Tmp} {ty : TypeId} {pos : String} {aft : Array Edge} {g : Option (Nat × Bool)}
theorem x_min {x y : Operand} {T T' : TypeId} {k : IntKind} {a b : Int} (hx : ev n env x = .int k a) (hy : ev n env y = .int k b) :
  Run P n env ⟨dst, .call ⟨.builtin .min, #[x, y], #[T, T']⟩, ty, pos, aft, g⟩ w (.ok (.value (.int k (min a b))) w) := by
 have e : (if b < a then b else a) = min a b := by omega
 unfold Run
 simp [execOp, hx, hy, resolve, invoke, builtin, Builtin.min_, Builtin.min2, e]
theorem x_max {x y : Operand} {T T' : TypeId} {k : IntKind} {a b : Int} (hx : ev n env x = .int k a) (hy : ev n env y = .int k b) :
  Run P n env ⟨dst, .call ⟨.builtin .max, #[x, y], #[T, T']⟩, ty, pos, aft, g⟩ w (.ok (.value (.int k (max a b))) w) := by
 have e : (if a < b then b else a) = max a b := by omega
 unfold Run
 simp [execOp, hx, hy, resolve, invoke, builtin, Builtin.max_, Builtin.max2, e]
theorem x_cap_slice {T E : TypeId} {x : Operand} {a : Option Addr} {l c : Nat} [hT : TU P T (.slice E)] (hx : ev n env x = .slice a l c) :
  Run P n env ⟨dst, .call ⟨.builtin .cap, #[x], #[T]⟩, ty, pos, aft, g⟩ w (.ok (.value (.int .i64 c)) w) := by
 unfold Run
 simp [execOp, hx, resolve, invoke, builtin, run_underlying hT.h, Builtin.cap_, goInt]
theorem x_neg64 {x : Operand} {T : TypeId} {a : Int} (hx : ev n env x = .int .i64 a) (h1 : -9223372036854775807 ≤ a) (h2 : a ≤ 9223372036854775807) :
  Run P n env ⟨dst, .unOp .neg T x, ty, pos, aft, g⟩ w (.ok (.value (.int .i64 (0 - a))) w) := by
 have h := x_neg (P := P) (w := w) (dst := dst) (ty := ty) (pos := pos) (aft := aft) (g := g) (T := T) hx
 rw [i64_in (by omega) (by omega)] at h
 exact h
theorem x_slice_arr_l {T E : TypeId} {m s : Nat} [hT : TU P T (.array m E)] [hs : TSz P E s] {x lo : Operand} {b off : Nat} {k : IntKind} {j : Nat}
  (hx : ev n env x = .pointer (some ⟨b, off, none⟩)) (hl : ev n env lo = .int k (j : Int)) (h : j < m) :
  Run P n env ⟨dst, .slice T x (some lo) none none, ty, pos, aft, g⟩ w (.ok (.value (.slice (some ⟨b, off + j * s, none⟩) (m - j) (m - j))) w) := by
 have hb : (Instr.sliceBound (.int k (j : Int)) m .sliceB).run P w = .ok j w := by
  have := run_sliceBound (P := P) (w := w) k (j : Int) m .sliceB (by omega) (by omega)
  simpa using this
 have hne : ¬ m = j := by omega
 unfold Run
 simp [execOp, hx, hl, Instr.sliceAt, run_underlying hT.h, Instr.sureAddr, Instr.sliceBounds, hb, run_sizeOf hs.h, add_none, hne]
theorem x_slice_arr_h {T E : TypeId} {m s : Nat} [hT : TU P T (.array m E)] [hs : TSz P E s] {x hi : Operand} {b off : Nat} {k : IntKind} {j : Nat}
  (hx : ev n env x = .pointer (some ⟨b, off, none⟩)) (hl : ev n env hi = .int k (j : Int)) (h : j ≤ m) :
  Run P n env ⟨dst, .slice T x none (some hi) none, ty, pos, aft, g⟩ w (.ok (.value (.slice (some ⟨b, off, none⟩) j m)) w) := by
 have hb : ∀ c, (Instr.sliceBound (.int k (j : Int)) m c).run P w = .ok j w := fun c => by
  have := run_sliceBound (P := P) (w := w) k (j : Int) m c (by omega) (by omega)
  simpa using this
 unfold Run
 simp [execOp, hx, hl, Instr.sliceAt, run_underlying hT.h, Instr.sureAddr, Instr.sliceBounds, hb, run_sizeOf hs.h, add_none]
theorem x_slice_arr {T E : TypeId} {m s : Nat} [hT : TU P T (.array m E)] [hs : TSz P E s] {x : Operand} {b off : Nat}
  (hx : ev n env x = .pointer (some ⟨b, off, none⟩)) :
  Run P n env ⟨dst, .slice T x none none none, ty, pos, aft, g⟩ w (.ok (.value (.slice (some ⟨b, off, none⟩) m m)) w) := by
 unfold Run
 simp [execOp, hx, Instr.sliceAt, run_underlying hT.h, Instr.sureAddr, Instr.sliceBounds, run_sizeOf hs.h, add_none]
theorem x_indexAddrA {T E : TypeId} {m : Nat} [hT : TU P T (.array m E)] [hs : TSz P E 1] {x ix : Operand} {b off : Nat} {k : IntKind} {j : Nat}
  (hx : ev n env x = .pointer (some ⟨b, off, none⟩)) (hi : ev n env ix = .int k (j : Int)) (h1 : j < m) :
  Run P n env ⟨dst, .indexAddr T x ix, ty, pos, aft, g⟩ w (.ok (.value (.pointer (some ⟨b, off + j, none⟩))) w) := by
 have h := x_indexAddr_arr (P := P) (w := w) (dst := dst) (ty := ty) (pos := pos) (aft := aft) (g := g) (T := T) hx hi (by omega) (by omega)
 rwa [Int.toNat_natCast, Nat.mul_one] at h
theorem x_indexAddrI {T E : TypeId} {m : Nat} [hT : TU P T (.array m E)] [hs : TSz P E 1] {x ix : Operand} {b off : Nat} {k : IntKind} {i : Int}
  (hx : ev n env x = .pointer (some ⟨b, off, none⟩)) (hi : ev n env ix = .int k i) (h0 : 0 ≤ i) (h1 : i < m) :
  Run P n env ⟨dst, .indexAddr T x ix, ty, pos, aft, g⟩ w (.ok (.value (.pointer (some ⟨b, off + i.toNat, none⟩))) w) := by
 have h := x_indexAddr_arr (P := P) (w := w) (dst := dst) (ty := ty) (pos := pos) (aft := aft) (g := g) (T := T) hx hi h0 h1
 rwa [Nat.mul_one] at h
theorem x_quoI {x y : Operand} {T T' : TypeId} {a b : Int} (hx : ev n env x = .int .i64 a) (hy : ev n env y = .int .i64 b) (h0 : 0 ≤ a) (h1 : a ≤ 9223372036854775807) (hb : 0 < b) :
  Run P n env ⟨dst, .binOp .quo T x y T', ty, pos, aft, g⟩ w (.ok (.value (.int .i64 (a / b))) w) := by
 have h := x_quo (P := P) (w := w) (dst := dst) (ty := ty) (pos := pos) (aft := aft) (g := g) (T := T) (T' := T') hx hy (by omega)
 have h2 : 0 ≤ a / b := Int.ediv_nonneg h0 (by omega)
 have h3 : a / b ≤ a := Int.ediv_le_self b h0
 rw [Int.tdiv_eq_ediv_of_nonneg h0, i64_in (by omega) (by omega)] at h
 exact h
theorem x_remI {x y : Operand} {T T' : TypeId} {k : IntKind} {a b : Int} (hx : ev n env x = .int k a) (hy : ev n env y = .int k b) (h0 : 0 ≤ a) (hb : 0 < b) :
  Run P n env ⟨dst, .binOp .rem T x y T', ty, pos, aft, g⟩ w (.ok (.value (.int k (a % b))) w) := by
 have h := x_rem (P := P) (w := w) (dst := dst) (ty := ty) (pos := pos) (aft := aft) (g := g) (T := T) (T' := T') hx hy (by omega)
 rw [Int.tmod_eq_emod_of_nonneg h0] at h
 exact h
theorem x_mul64 {x y : Operand} {T T' : TypeId} {a b : Int} (hx : ev n env x = .int .i64 a) (hy : ev n env y = .int .i64 b) (h1 : -9223372036854775808 ≤ a * b) (h2 : a * b ≤ 9223372036854775807) :
  Run P n env ⟨dst, .binOp .mul T x y T', ty, pos, aft, g⟩ w (.ok (.value (.int .i64 (a * b))) w) := by
 have h := x_mul (P := P) (w := w) (dst := dst) (ty := ty) (pos := pos) (aft := aft) (g := g) (T := T) (T' := T') hx hy
 rw [i64_in h1 h2] at h; exact h
theorem r_store_bw {T : TypeId} {s : Nat} [hs : TSz P T s] {x y : Operand} {b j : Nat} {E : TypeId} {l : List (BitVec 64)} {v : BitVec 64} (hx : ev n env x = .pointer (some ⟨b, 0 + j, none⟩))
  (hy : ev n env y = .int .u64 (uw v)) (hb : Blk w b E (0, 0) (ints .u64 (ws l))) (ho : j < l.length) (h1 : s = 1) :
  ∃ w', Run P n env ⟨dst, .store T x y, ty, pos, aft, g⟩ w (.ok .skip w') ∧ Eff w w' b (.cells (ints .u64 (ws (l.set j v))).toArray E (0, 0)) := by
 have h := r_store_bints (P := P) (w := w) (dst := dst) (ty := ty) (pos := pos) (aft := aft) (g := g) (T := T) hx hy hb (by simpa using ho) h1
 rw [ws_set] at h
 exact h
theorem r_store_bb {T : TypeId} {s : Nat} [hs : TSz P T s] {x y : Operand} {b j : Nat} {E : TypeId} {l : List UInt8} {v : UInt8} (hx : ev n env x = .pointer (some ⟨b, 0 + j, none⟩))
  (hy : ev n env y = .int .u8 (ub v)) (hb : Blk w b E (0, 0) (ints .u8 (bs8 l))) (ho : j < l.length) (h1 : s = 1) :
  ∃ w', Run P n env ⟨dst, .store T x y, ty, pos, aft, g⟩ w (.ok .skip w') ∧ Eff w w' b (.cells (ints .u8 (bs8 (l.set j v))).toArray E (0, 0)) := by
 have h := r_store_bints (P := P) (w := w) (dst := dst) (ty := ty) (pos := pos) (aft := aft) (g := g) (T := T) hx hy hb (by simpa using ho) h1
 rw [bs8_set] at h
 exact h
theorem r_store_all {T : TypeId} {s : Nat} [hs : TSz P T s] {x y : Operand} {b : Nat} {E : TypeId} {cs vs : List Value} (hx : ev n env x = .pointer (some ⟨b, 0, none⟩))
  (hy : ev n env y = .agg vs.toArray) (hb : Blk w b E (0, 0) cs) (hl : vs.length = s) (hc : cs.length = s) (h1 : vs.all (·.oneCell') = true) :
  ∃ w', Run P n env ⟨dst, .store T x y, ty, pos, aft, g⟩ w (.ok .skip w') ∧ Eff w w' b (.cells vs.toArray E (0, 0)) := by
 have h := r_storeN (P := P) (w := w) (dst := dst) (ty := ty) (pos := pos) (aft := aft) (g := g) (T := T) hx hy hb hl (by omega) h1
 have e : lay cs 0 vs = vs := by simp [lay, List.drop_of_length_le (show cs.length ≤ vs.length by omega)]
 rw [e] at h
 exact h
theorem ints_one (k : IntKind) (xs : List Int) : (ints k xs).all (·.oneCell') = true := by
 rw [List.all_eq_true]
 intro v hv
 simp only [ints, List.mem_map] at hv
 obtain ⟨x, _, rfl⟩ := hv
 rfl
theorem x_load_bw {T : TypeId} [TOne P T] {x : Operand} {b j : Nat} {E : TypeId} {fz : Nat × Nat} {l : List (BitVec 64)} (hx : ev n env x = .pointer (some ⟨b, 0 + j, none⟩))
  (hb : Blk w b E fz (ints .u64 (ws l))) (hj : j < l.length) :
  Run P n env ⟨dst, .load T x, ty, pos, aft, g⟩ w (.ok (.value (.int .u64 (uw (l.getD j 0)))) w) := by
 rw [← ws_get hj]
 rw [Nat.zero_add] at hx
 exact x_load1 hx hb (ints_get _ _ _ (by simpa using hj))
theorem x_load_bb {T : TypeId} [TOne P T] {x : Operand} {b j : Nat} {E : TypeId} {fz : Nat × Nat} {l : List UInt8} (hx : ev n env x = .pointer (some ⟨b, 0 + j, none⟩))
  (hb : Blk w b E fz (ints .u8 (bs8 l))) (hj : j < l.length) :
  Run P n env ⟨dst, .load T x, ty, pos, aft, g⟩ w (.ok (.value (.int .u8 (ub (l.getD j 0)))) w) := by
 rw [← bs8_get hj]
 rw [Nat.zero_add] at hx
 exact x_load1 hx hb (ints_get _ _ _ (by simpa using hj))
theorem x_load_sw {T : TypeId} [TOne P T] {x : Operand} {b off j : Nat} {l : List (BitVec 64)} (hx : ev n env x = .pointer (some ⟨b, off + j, none⟩))
  (hs : Seg w b off (ints .u64 (ws l))) (hj : j < l.length) :
  Run P n env ⟨dst, .load T x, ty, pos, aft, g⟩ w (.ok (.value (.int .u64 (uw (l.getD j 0)))) w) := by
 rw [← ws_get hj]
 exact x_load_ints hx hs (by simpa using hj)
theorem x_load_sb {T : TypeId} [TOne P T] {x : Operand} {b off j : Nat} {l : List UInt8} (hx : ev n env x = .pointer (some ⟨b, off + j, none⟩))
  (hs : Seg w b off (ints .u8 (bs8 l))) (hj : j < l.length) :
  Run P n env ⟨dst, .load T x, ty, pos, aft, g⟩ w (.ok (.value (.int .u8 (ub (l.getD j 0)))) w) := by
 rw [← bs8_get hj]
 exact x_load_ints hx hs (by simpa using hj)
theorem x_load_all {T : TypeId} {s : Nat} [hT : TAgg P T s] {x : Operand} {b : Nat} {E : TypeId} {fz : Nat × Nat} {cs : List Value} (hx : ev n env x = .pointer (some ⟨b, 0, none⟩))
  (hb : Blk w b E fz cs) (hl : cs.length = s) :
  Run P n env ⟨dst, .load T x, ty, pos, aft, g⟩ w (.ok (.value (.agg cs.toArray)) w) := x_loadN hx hb hl (fun j _ => by rw [Nat.zero_add])
theorem x_index_arr {T E : TypeId} {m : Nat} [hT : TU P T (.array m E)] [hs : TSz P E 1] [hE : TOne P E] {x ix : Operand} {k : IntKind} {j : Nat} {cs : List Value} {v : Value}
  (hx : ev n env x = .agg cs.toArray) (hi : ev n env ix = .int k (j : Int)) (h1 : j < m) (hv : cs[j]? = some v) :
  Run P n env ⟨dst, .index T x ix, ty, pos, aft, g⟩ w (.ok (.value v) w) := by
 unfold Run
 simp [execOp, hx, hi, Instr.index, asIntOf, run_underlying hT.h, h1, run_sizeOf hs.h, part, run_isAgg_one, hv]
theorem r_copy {T T2 E E2 : TypeId} [hT : TU P T (.slice E2)] [hs : TSz P E2 1] {x y : Operand} {b off dl dc b2 off2 sl sc : Nat} {cs vs : List Value} (hx : ev n env x = .slice (some ⟨b, off, none⟩) dl dc) (hy : ev n env y = .slice (some ⟨b2, off2, none⟩) sl sc)
  (hl : vs.length = min sl dl) (hb : Blk w b E (0, 0) cs) (ho : off + vs.length ≤ cs.length) (hv : Seg w b2 off2 vs) (h1 : vs.all (·.oneCell') = true) :
  ∃ v w', Run P n env ⟨dst, .call ⟨.builtin .copy, #[x, y], #[T, T2]⟩, ty, pos, aft, g⟩ w (.ok (.value v) w') ∧ v = .int .i64 (min sl dl : Nat) ∧ Eff w w' b (.cells (lay cs off vs).toArray E (0, 0)) := by
 obtain ⟨w', hr, hw⟩ := run_storeCells_eff (P := P) (b := b) (off := off) (E := E) vs 0 cs w hb (by omega) (fun v hv => (List.all_eq_true.1 h1) v hv)
 have h := run_loadCells_list (P := P) w ⟨b2, off2, none⟩ vs (fun j v hj => by
  rw [add_none, hv j (List.getElem?_eq_some_iff.1 hj).1, hj])
 rw [hl] at h
 refine ⟨_, w', ?_, rfl, hw⟩
 unfold Run
 simp [execOp, hx, hy, resolve, invoke, builtin, run_underlying hT.h, Builtin.copy_, Builtin.lenOf, Builtin.firstCells, run_sizeOf hs.h, Nat.min_def, goInt]
 rw [Nat.min_def] at h
 simp [h, hr]
end
section
variable {P : Program} {f : Fm} {n : Nat} {R : Ending → World → Prop} {k : List Item} {env : Env} {w : World} {d : Tmp} {ty : TypeId} {pos : String} {aft : Array Edge} {pre rest : List Oper}
theorem s_xw {x y : Operand} {T T' : TypeId} {a b : BitVec 64} (h : AtR P f n R (⟨some d, .binOp .xor T x y T', ty, pos, aft, none⟩ :: pre) rest k (upd env d (.int .u64 (uw (a ^^^ b)))) w) (hx : ev n env x = .int .u64 (uw a) := by exact rfl) (hy : ev n env y = .int .u64 (uw b) := by exact rfl) :
  AtR P f n R pre (⟨some d, .binOp .xor T x y T', ty, pos, aft, none⟩ :: rest) k env w := s_val (x_xorW hx hy) h
theorem s_aw {x y : Operand} {T T' : TypeId} {a b : BitVec 64} (h : AtR P f n R (⟨some d, .binOp .and T x y T', ty, pos, aft, none⟩ :: pre) rest k (upd env d (.int .u64 (uw (a &&& b)))) w) (hx : ev n env x = .int .u64 (uw a) := by exact rfl) (hy : ev n env y = .int .u64 (uw b) := by exact rfl) :
  AtR P f n R pre (⟨some d, .binOp .and T x y T', ty, pos, aft, none⟩ :: rest) k env w := s_val (x_andW hx hy) h
theorem s_ow {x y : Operand} {T T' : TypeId} {a b : BitVec 64} (h : AtR P f n R (⟨some d, .binOp .or T x y T', ty, pos, aft, none⟩ :: pre) rest k (upd env d (.int .u64 (uw (a ||| b)))) w) (hx : ev n env x = .int .u64 (uw a) := by exact rfl) (hy : ev n env y = .int .u64 (uw b) := by exact rfl) :
  AtR P f n R pre (⟨some d, .binOp .or T x y T', ty, pos, aft, none⟩ :: rest) k env w := s_val (x_orW hx hy) h
theorem s_dw {x y : Operand} {T T' : TypeId} {a b : BitVec 64} (h : AtR P f n R (⟨some d, .binOp .add T x y T', ty, pos, aft, none⟩ :: pre) rest k (upd env d (.int .u64 (uw (a + b)))) w) (hx : ev n env x = .int .u64 (uw a) := by exact rfl) (hy : ev n env y = .int .u64 (uw b) := by exact rfl) :
  AtR P f n R pre (⟨some d, .binOp .add T x y T', ty, pos, aft, none⟩ :: rest) k env w := s_val (x_addW hx hy) h
theorem s_hl {x y : Operand} {T T' : TypeId} {a : BitVec 64} {k' : IntKind} {m : Int} (h : AtR P f n R (⟨some d, .binOp .shl T x y T', ty, pos, aft, none⟩ :: pre) rest k (upd env d (.int .u64 (uw (a <<< m.toNat)))) w) (hx : ev n env x = .int .u64 (uw a) := by exact rfl) (hy : ev n env y = .int k' m := by exact rfl) (hm : 0 ≤ m := by omega) :
  AtR P f n R pre (⟨some d, .binOp .shl T x y T', ty, pos, aft, none⟩ :: rest) k env w := s_val (x_shlW hx hy hm) h
theorem s_hr {x y : Operand} {T T' : TypeId} {a : BitVec 64} {k' : IntKind} {m : Int} (h : AtR P f n R (⟨some d, .binOp .shr T x y T', ty, pos, aft, none⟩ :: pre) rest k (upd env d (.int .u64 (uw (a >>> m.toNat)))) w) (hx : ev n env x = .int .u64 (uw a) := by exact rfl) (hy : ev n env y = .int k' m := by exact rfl) (hm : 0 ≤ m := by omega) :
  AtR P f n R pre (⟨some d, .binOp .shr T x y T', ty, pos, aft, none⟩ :: rest) k env w := s_val (x_shrW hx hy hm) h
theorem s_bw {S T : TypeId} {x : Operand} {ks : IntKind} {a : UInt8} [TU P S (.int ks)] [TU P T (.int .u64)] (h : AtR P f n R (⟨some d, .convert S T x, ty, pos, aft, none⟩ :: pre) rest k (upd env d (.int .u64 (uw (BitVec.ofNat 64 a.toNat)))) w) (hx : ev n env x = .int .u8 (ub a) := by exact rfl) :
  AtR P f n R pre (⟨some d, .convert S T x, ty, pos, aft, none⟩ :: rest) k env w := s_val (x_conv_bw hx) h
theorem s_wb {S T : TypeId} {x : Operand} {ks : IntKind} {a : BitVec 64} [TU P S (.int ks)] [TU P T (.int .u8)] (h : AtR P f n R (⟨some d, .convert S T x, ty, pos, aft, none⟩ :: pre) rest k (upd env d (.int .u8 (ub (lowb a)))) w) (hx : ev n env x = .int .u64 (uw a) := by exact rfl) :
  AtR P f n R pre (⟨some d, .convert S T x, ty, pos, aft, none⟩ :: rest) k env w := s_val (x_conv_wb hx) h
theorem s_ng {T : TypeId} {x : Operand} {a : Int} (h : AtR P f n R (⟨some d, .unOp .neg T x, ty, pos, aft, none⟩ :: pre) rest k (upd env d (.int .i64 (0 - a))) w) (hx : ev n env x = .int .i64 a := by exact rfl) (h1 : -9223372036854775807 ≤ a := by omega) (h2 : a ≤ 9223372036854775807 := by omega) :
  AtR P f n R pre (⟨some d, .unOp .neg T x, ty, pos, aft, none⟩ :: rest) k env w := s_val (x_neg64 hx h1 h2) h
theorem s_ldw {T : TypeId} {x : Operand} {v : Value} (h : AtR P f n R (⟨some d, .load T x, ty, pos, aft, none⟩ :: pre) rest k (upd env d (v)) w) (hr : Run P n env ⟨some d, .load T x, ty, pos, aft, none⟩ w (.ok (.value v) w) := by first | exact x_load_bw rfl (by assumption) (by omega) | exact x_load_sw rfl (by assumption) (by omega) | exact x_load_bb rfl (by assumption) (by omega) | exact x_load_sb rfl (by assumption) (by omega)) :
  AtR P f n R pre (⟨some d, .load T x, ty, pos, aft, none⟩ :: rest) k env w := s_val (hr) h
theorem s_iaa {T : TypeId} {x ix : Operand} {v : Value} (h : AtR P f n R (⟨some d, .indexAddr T x ix, ty, pos, aft, none⟩ :: pre) rest k (upd env d (v)) w) (hr : Run P n env ⟨some d, .indexAddr T x ix, ty, pos, aft, none⟩ w (.ok (.value v) w) := by first | exact x_indexAddrA rfl rfl (by omega) | exact x_indexAddrI rfl rfl (by omega) (by omega)) :
  AtR P f n R pre (⟨some d, .indexAddr T x ix, ty, pos, aft, none⟩ :: rest) k env w := s_val (hr) h
theorem s_qu {x y : Operand} {T T' : TypeId} {a b : Int} (h : AtR P f n R (⟨some d, .binOp .quo T x y T', ty, pos, aft, none⟩ :: pre) rest k (upd env d (.int .i64 (a / b))) w) (hx : ev n env x = .int .i64 a := by exact rfl) (hy : ev n env y = .int .i64 b := by exact rfl) (h0 : 0 ≤ a := by omega) (h1 : a ≤ 9223372036854775807 := by omega) (hb : 0 < b := by omega) :
  AtR P f n R pre (⟨some d, .binOp .quo T x y T', ty, pos, aft, none⟩ :: rest) k env w := s_val (x_quoI hx hy h0 h1 hb) h
theorem s_rm {x y : Operand} {T T' : TypeId} {kk : IntKind} {a b : Int} (h : AtR P f n R (⟨some d, .binOp .rem T x y T', ty, pos, aft, none⟩ :: pre) rest k (upd env d (.int kk (a % b))) w) (hx : ev n env x = .int kk a := by exact rfl) (hy : ev n env y = .int kk b := by exact rfl) (h0 : 0 ≤ a := by omega) (hb : 0 < b := by omega) :
  AtR P f n R pre (⟨some d, .binOp .rem T x y T', ty, pos, aft, none⟩ :: rest) k env w := s_val (x_remI hx hy h0 hb) h
theorem s_ml {x y : Operand} {T T' : TypeId} {a b : Int} (h : AtR P f n R (⟨some d, .binOp .mul T x y T', ty, pos, aft, none⟩ :: pre) rest k (upd env d (.int .i64 (a * b))) w) (hx : ev n env x = .int .i64 a := by exact rfl) (hy : ev n env y = .int .i64 b := by exact rfl) (h1 : -9223372036854775808 ≤ a * b := by omega) (h2 : a * b ≤ 9223372036854775807 := by omega) :
  AtR P f n R pre (⟨some d, .binOp .mul T x y T', ty, pos, aft, none⟩ :: rest) k env w := s_val (x_mul64 hx hy h1 h2) h
theorem s_cp {T : TypeId} {x : Operand} {v : Value} (h : AtR P f n R (⟨some d, .call ⟨.builtin .cap, #[x], #[T]⟩, ty, pos, aft, none⟩ :: pre) rest k (upd env d (v)) w) (hr : Run P n env ⟨some d, .call ⟨.builtin .cap, #[x], #[T]⟩, ty, pos, aft, none⟩ w (.ok (.value v) w) := by exact x_cap_slice rfl) :
  AtR P f n R pre (⟨some d, .call ⟨.builtin .cap, #[x], #[T]⟩, ty, pos, aft, none⟩ :: rest) k env w := s_val (hr) h
end
end Go.Kx
namespace Go.Kx
open Go
section
attribute [local semireducible] At AtR AtG Run AtH
variable {P : Program} {f : Fm} {n : Nat} {R : Ending → World → Prop} {k : List Item} {env : Env} {w : World} {S : World → Prop} {ops : Array Oper}
theorem wpOp_call {fuel : Nat} {listed : Array Bool} {i : Nat} {o : Oper} {gf : FuncId} {args : Array Value} {w' : World} {Q : Ending → World → Prop} (hi : ops[i]? = some o) (hg : gsays ops n env o true)
  (hrun : Run P n env o w (.ok (.enter gf args) w')) (hc : Calls P gf args w' Q)
  (h : ∀ e w'', Q e w'' → ∃ v, e = .returned v ∧ S w'' ∧ AtH P f n R ops S k fuel (listed.setIfInBounds i true) (updo env o.dst v) w'') :
  wpOp P ops (AtQ P f n R k) i (fun a' w' => S w' ∧ wpAnyH P .any ops (AtQ P f n R k) S fuel (listed.setIfInBounds i true) a' w') (mkF f n env) w := by
 unfold wpOp
 simp only [hi]
 rw [if_pos (wanted_gsays hg)]
 refine .inl ?_
 unfold Run at hrun
 unfold Oper.wp
 rw [eval_mkF, hrun]
 simp only [Oper.upon]
 refine hc.mono fun e w'' hq => ?_
 obtain ⟨v, rfl, hS, h'⟩ := h e w'' hq
 simp only [mkF_put]
 exact ⟨hS, h'⟩
theorem AtH_pairC {fuel : Nat} {listed : Array Bool} (i j : Nat) {o u : Oper} {v : Value} {gf : FuncId} {args : Array Value} {w' : World} {Q : Ending → World → Prop} (hi : ops[i]? = some o) (hj : ops[j]? = some u) (hr : Region.ready .any ops listed = [i, j])
  (gi : gsays ops n env o true) (gj : gsays ops n env u true) (hrun : Run P n env o w (.ok (.value v) w)) (hS : S w) (hcall : Run P n env u w (.ok (.enter gf args) w')) (hc : Calls P gf args w' Q)
  (k1 : AtH P f n R ops S k fuel (listed.setIfInBounds i true) (updo env o.dst v) w)
  (k2 : ∀ e w'', Q e w'' → ∃ v, e = .returned v ∧ S w'' ∧ AtH P f n R ops S k fuel (listed.setIfInBounds j true) (updo env u.dst v) w'') :
  AtH P f n R ops S k (fuel + 1) listed env w :=
 wpAnyH_all hr (by simp) (fun l hl => by
  rcases List.mem_cons.1 hl with rfl | hl
  ·exact wpOp_val hi gi hrun hS k1
  ·obtain rfl : l = j := by simpa using hl
   exact wpOp_call hj gj hcall hc k2)
end
end Go.Kx
namespace Go.Kx
open Go
section
attribute [local semireducible] At AtR AtG Run
variable {P : Program} {f : Fm} {n : Nat} {R : Ending → World → Prop} {k : List Item} {env : Env} {w : World}
def loopRec (fn : FuncId) (n : Nat) (env : Env) (ps : Array Tmp) (assign body : Code) (D : Nat) : Loop := { state := .ready, pending := none, fn, tmps := (mkA n env).tmps, params := ps, assign, body, defers := D }
theorem At_rangeFunc {fn : FuncId} {ds : List Deferred} {g : Operand} {ps : Array Tmp} {assign body : Code} {gf : FuncId} {lb : Array Value} [hF : TFn P gf] {Q : World → Prop} (hg : ev n env g = .func (.func gf) #[] lb)
  (hc : Calls P gf (#[.func (.yield (w.heap.size + 1)) #[] #[]] ++ lb) ((w.alloc (.deferred (some []))).alloc (.loop (loopRec fn n env ps assign body w.heap.size)))
   fun e w2 => (∃ v, e = .returned v) ∧ w2.heap[w.heap.size + 1]? = some (.loop (loopRec fn n env ps assign body w.heap.size)) ∧ Q w2)
  (h : ∀ w2, Q w2 → At P ⟨fn, none, { target := .collected w.heap.size, args := #[] } :: ds⟩ n R k env (w2.putObj (w.heap.size + 1) (.loop { loopRec fn n env ps assign body w.heap.size with state := .exhausted }))) :
  At P ⟨fn, none, ds⟩ n R (.code (.rangeFunc g ps assign body) :: k) env w := by
 intro cs
 have hev : (mkF ⟨fn, none, ds⟩ n env).eval = ev n env := eval_mkF _ _ _
 have hconst : ∀ v, ev n env (.const v) = v := fun _ => rfl
 have hstep := stepR_rangeFunc (P := P) (b := fr0 ⟨fn, none, ds⟩) (a := mkF ⟨fn, none, ds⟩ n env) (k := k) (cs := cs) (w := w) (g := g) (ps := ps) (assign := assign) (body := body)
  (w₁' := (w.alloc (.deferred (some []))).alloc (.loop (loopRec fn n env ps assign body w.heap.size))) (w₂ := (w.alloc (.deferred (some []))).alloc (.loop (loopRec fn n env ps assign body w.heap.size)))
  (f := gf) (args := #[.func (.yield (w.heap.size + 1)) #[] #[]] ++ lb) (run_enterLoop_outer _ _ _ _ _) (d := { target := .fn (.func gf) lb, args := #[.func (.yield (w.heap.size + 1)) #[] #[]] }) (by
   rw [hev]
   simp [resolve, hg, hconst, Deferred.ofValue]; rfl) (by
   simp [invoke, run_callFunc])
 obtain ⟨e, w2, fr, ⟨⟨v, rfl⟩, hl, hq⟩, hsteps, _, hleave⟩ := hc (((fr0 ⟨fn, none, ds⟩).atR { mkF ⟨fn, none, ds⟩ n env with defers := [{ target := .collected w.heap.size, args := #[] }] ++ (mkF ⟨fn, none, ds⟩ n env).defers } (.inRangeFunc (w.heap.size + 1) :: k)) :: cs)
 obtain ⟨e, w3, fr', hR', hc', rest'⟩ := h w2 hq cs
 refine ⟨e, w3, fr', hR', .of_steps (.head hstep (hsteps.trans (.head (step_leave_returned hleave) ?_))) hc', rest'⟩
 rw [finish_atR_inRangeFunc]
 exact .one (stepR_endRangeFunc (run_endLoop hl (by simp [loopRec])))
theorem At_beginRound {fn : FuncId} {l : Nat} {ds : List Deferred} {r : Loop} (hl : w.heap[l]? = some (.loop r)) (hr : r.state = .ready) (h : At P ⟨fn, some l, ds⟩ n R k env (w.putObj l (.loop { r with state := .busy }))) :
  At P ⟨fn, some l, ds⟩ n R (.beginRound :: k) env w :=
 At.step (fun _ => stepR_beginRound (b := fr0 ⟨fn, some l, ds⟩) rfl (run_beginRound hl hr)) h
theorem At_roundEnd {fn : FuncId} {l : Nat} {ds : List Deferred} (h : R (.returned (.tuple (mkA n env).tmps)) w) : At P ⟨fn, some l, ds⟩ n R [] env w :=
 fun _ => ⟨_, w, _, h, Steps.refl _ _, env, rfl, rfl⟩
theorem AtG_yield {pre rest : List Oper} {o : Oper} {l n0 : Nat} {env0 : Env} {r : Loop} {Q : World → Prop} (hrun : Run P n env o w (.ok (.round l r.fn (mkA n0 env0).tmps r.assign r.body) w))
  (hround : At P ⟨r.fn, some l, []⟩ n0 (fun e w' => (∃ v, e = .returned v) ∧ w'.heap[l]? = some (.loop { r with state := .busy }) ∧ Q w') [.code r.assign, .beginRound, .code r.body] env0 w)
  (h : ∀ w', Q w' → AtR P f n R (o :: pre) rest k (updo env o.dst (.bool true)) (w'.putObj l (.loop { r with state := .ready, pending := none }))) :
  AtG P f n R pre o rest k env w := by
 intro hw
 unfold AtR
 rw [List.length_cons, range_cons]
 have ho : (pre.reverse ++ o :: rest).toArray[pre.length]? = some o := by
  simp
 have hg := fun cs => stepGR_op (P := P) (b := fr0 f) (a := mkF f n env) (k := k) (cs := cs) (w := w) (ops := (pre.reverse ++ o :: rest).toArray) (i := pre.length)
  (rest := List.range' (pre.length + 1) rest.length) ho hw
 simp only [eval_mkF, fr0_round] at hg
 have hfin : ∀ v, ((fr0 f).atR (mkF f n env) (.inRegion (pre.reverse ++ o :: rest).toArray (pre.length :: List.range' (pre.length + 1) rest.length) :: k)).finish v
   = (fr0 f).atR (mkF f n (updo env o.dst v)) (.inRegion (pre.reverse ++ o :: rest).toArray (List.range' (pre.length + 1) rest.length) :: k) := by
  intro v; rw [Frame.finish_atR, ho]; simp only [Option.bind_some, mkF_put]
 unfold Run at hrun
 have hsem : (o.semAt f.round (ev n env)).run P w = .ok (.round l r.fn (mkA n0 env0).tmps r.assign r.body) w := by
  by_cases hd : ∃ c, o.op = .defer c
  ·exfalso
   obtain ⟨c, hc⟩ := hd
   have he : execOp (ev n env) o = (do let d ← resolve (ev n env) c o.type; pure (.defer d)) := by unfold execOp; rw [hc]
   rw [he, Sem.run_bind] at hrun
   cases hq : (resolve (ev n env) c o.type).run P w <;> rw [hq] at hrun <;> cases hrun
  ·rw [Oper.semAt_eq _ _ _ (fun c hc => hd ⟨c, hc⟩)]; exact hrun
 intro cs
 obtain ⟨e, w', fr, ⟨_, hl, hq⟩, hsteps, env', rfl, rfl⟩ := hround ((fr0 f).atR (mkF f n env) (.inRegion (pre.reverse ++ o :: rest).toArray (pre.length :: List.range' (pre.length + 1) rest.length) :: k) :: cs)
 have henter : step P (lone ((fr0 f).atR (mkF f n env) (.inRegion (pre.reverse ++ o :: rest).toArray (pre.length :: List.range' (pre.length + 1) rest.length) :: k)) cs w) =
   .next (lone ((fr0 ⟨r.fn, some l, []⟩).atR (mkF ⟨r.fn, some l, []⟩ n0 env0) [.code r.assign, .beginRound, .code r.body]) ((fr0 f).atR (mkF f n env) (.inRegion (pre.reverse ++ o :: rest).toArray (pre.length :: List.range' (pre.length + 1) rest.length) :: k) :: cs) w) :=
  step_lone_go (by rw [hg]; simp [stepG.apply, hsem, Frame.atR, Frame.round, fr0, mkF])
 obtain ⟨e, w₃, fr', hR', hc', rest'⟩ := AtR_shift (h w' hq) cs
 refine ⟨e, w₃, fr', hR', .of_steps (.head henter (hsteps.trans (.one ?_))) hc', rest'⟩
 rw [← hfin]
 have h1 := stepR_round_end (P := P) (b := fr0 ⟨r.fn, some l, []⟩) (a := mkF ⟨r.fn, some l, []⟩ n0 env') (cs := cs) (w := w') (c := (fr0 f).atR (mkF f n env) (.inRegion (pre.reverse ++ o :: rest).toArray (pre.length :: List.range' (pre.length + 1) rest.length) :: k)) rfl rfl (run_endRound none hl)
 exact h1
theorem At_retD {fn : FuncId} {fd : Func} {D : Nat} {v : Value} (hf : P.funcs[fn]? = some fd) (hD : w.heap[D]? = some (.deferred (some []))) (hr : (results fd (mkA n env).tmps).run P (w.putObj D (.deferred none)) = .ok v (w.putObj D (.deferred none)))
  (h : R (.returned v) (w.putObj D (.deferred none))) : At P ⟨fn, none, [{ target := .collected D, args := #[] }]⟩ n R (.code .ret :: k) env w := by
 intro cs
 refine ⟨.returned v, w.putObj D (.deferred none), { (fr0 ⟨fn, none, []⟩).atR (mkF ⟨fn, none, []⟩ n env) (.code .ret :: k) with mode := .returning }, h, .of_steps (.head (stepR_ret rfl) (.one ?_)) (Steps.refl _ _), rfl, rfl, rfl, rfl, fd, hf, hr⟩
 exact step_lone_go (by simp [stepG, unwind, Frame.atR, fr0, mkF, Sem.runT_eq, run_takeDeferred hD, GStep.bare_after])
theorem mkA_set {n0 : Nat} {env0 : Env} {p : Nat} {v : Value} : (mkA n0 env0).tmps.setIfInBounds p v = (mkA n0 (upd env0 p v)).tmps := by
 have h := congrArg Act.tmps (mkA_put n0 env0 (some p) v)
 simpa [Act.put, updo] using h
variable {dst : Option Tmp} {ty : TypeId} {pos : String} {aft : Array Edge} {g : Option (Nat × Bool)}
theorem x_yield {x y : Operand} {tys : Array TypeId} {l n0 p : Nat} {env0 : Env} {r : Loop} {v : Value} (hg : ev n env x = .func (.yield l) #[] #[]) (hy : ev n env y = v) (hl : w.heap[l]? = some (.loop r)) (hp : r.params = #[p]) (ht : r.tmps = (mkA n0 env0).tmps) :
  Run P n env ⟨dst, .call ⟨.value x, #[y], tys⟩, ty, pos, aft, g⟩ w (.ok (.round l r.fn (mkA n0 (upd env0 p v)).tmps r.assign r.body) w) := by
 have h := run_yield (P := P) (args := #[v]) hl (by rw [hp]; rfl)
 rw [hp, ht] at h
 unfold Run
 simp [execOp, resolve, invoke, hg, hy, Deferred.ofValue, h, mkA_set]
theorem x_makeFunc2 {fn : FuncId} {a b : Operand} {u v : Value} (ha : ev n env a = u) (hb : ev n env b = v) :
  Run P n env ⟨dst, .makeFunc (.func fn) #[] #[a, b], ty, pos, aft, g⟩ w (.ok (.value (.func (.func fn) #[] #[u, v])) w) := by
 unfold Run
 simp [execOp, ha, hb, Instr.makeFunc]
theorem x_slice3 {T E : TypeId} {s : Nat} [hT : TU P T (.slice E)] [hs : TSz P E s] {x lo hi mx : Operand} {b off len cap l h m : Nat} {kl kh km : IntKind} (hx : ev n env x = .slice (some ⟨b, off, none⟩) len cap)
  (hl : ev n env lo = .int kl (l : Int)) (hh : ev n env hi = .int kh (h : Int)) (hm : ev n env mx = .int km (m : Int)) (h1 : l < m) (h2 : l ≤ h) (h3 : h ≤ m) (h4 : m ≤ cap) :
  Run P n env ⟨dst, .slice T x (some lo) (some hi) (some mx), ty, pos, aft, g⟩ w (.ok (.value (.slice (some ⟨b, off + l * s, none⟩) (h - l) (m - l))) w) := by
 have b1 : ∀ (k : IntKind) (i y : Nat) (c : BoundsCode), i ≤ y → (Instr.sliceBound (.int k (i : Int)) y c).run P w = .ok i w := fun k i y c hi => by
  have := run_sliceBound (P := P) (w := w) k (i : Int) y c (by omega) (by omega)
  simpa using this
 have hne : ¬ m = l := by omega
 unfold Run
 simp [execOp, hx, hl, hh, hm, Instr.sliceAt, Instr.slice, run_underlying hT.h, Instr.sliceBounds, b1 _ _ _ _ h4, b1 _ _ _ _ h3, b1 _ _ _ _ h2, run_sizeOf hs.h, hne, add_none]
end
end Go.Kx
namespace Go.Kx
open Go
class TX (P : Program) (f : FuncId) (e : outParam (Array Value → Sem Value)) : Prop where
 h : ∃ fn, P.funcs[f]? = some fn ∧ (fn.name == "runtime.NumGoroutine") = false ∧ fn.body.isNone = true ∧ Extern.findNext fn = none ∧ Extern.find fn = some e
section
variable {P : Program} {n : Nat} {env : Env} {w : World} {dst : Option Tmp} {ty : TypeId} {pos : String} {aft : Array Edge} {g : Option (Nat × Bool)}
theorem x_callX {xs : List Operand} {ts : Array TypeId} {gf : FuncId} {e : Array Value → Sem Value} [hX : TX P gf e] {args : List Value} {v : Value} {w' : World} (ha : xs.map (ev n env) = args) (hr : (e args.toArray).run P w = .ok v w') :
  Run P n env ⟨dst, .call ⟨.value (.func gf), xs.toArray, ts⟩, ty, pos, aft, g⟩ w (.ok (.value v) w') := by
 subst ha
 obtain ⟨fn, h1, h2, h3, h4, h5⟩ := hX.h
 have hc : ∀ args, (callFunc gf args).run P w = _ := fun args => run_callFunc_extern h1 h2 h3 h4 h5 args w
 unfold Run
 simp [execOp, resolve, invoke, ev, Deferred.ofValue, hc, hr]
theorem bytesOf_bs8 (l : List UInt8) : Lib.bytesOf (bs8 l) = l := by
 unfold Lib.bytesOf bs8
 rw [List.map_map]
 conv => rhs; rw [← List.map_id l]
 apply List.map_congr_left
 intro x _
 simp [ub]
theorem run_bytesOf {a : Option Addr} {len cap : Nat} {l : List UInt8} {D : Nat → Prop} (hs : SlE w .u8 a len cap (bs8 l) D) : (Extern.Bytes.bytesOf (.slice a len cap)).run P w = .ok ⟨l.toArray⟩ w := by
 have hl := hs.len_eq
 simp only [bs8_length] at hl
 subst hl
 rcases hs.mem with hc | ⟨b, off, rfl, hlt, _, hseg⟩
 ·have h0 : l.length = 0 := by have := hs.le; omega
  have : l = [] := List.eq_nil_of_length_eq_zero h0
  subst this
  cases a with
  | none => rfl
  | some a => rfl
 ·have h := Lib.run_loadBytesX (P := P) w (bs8 l) ⟨b, off, none⟩ .empty (fun j x hj => by
   have hlt := (List.getElem?_eq_some_iff.1 hj).1
   rw [add_none, hseg j (by simpa using hlt)]
   simp only [ints, List.getElem?_map, hj, Option.map_some])
  rw [bs8_length] at h
  show (Extern.Bytes.loadBytes ⟨b, off, none⟩ l.length .empty).run P w = _
  rw [h, bytesOf_bs8]
  congr 1
  apply ByteArray.ext
  simp
theorem run_compare {a a' : Option Addr} {len cap len' cap' : Nat} {l l' : List UInt8} {D D' : Nat → Prop} (hs : SlE w .u8 a len cap (bs8 l) D) (hs' : SlE w .u8 a' len' cap' (bs8 l') D') :
  (Extern.BytealgCompare.compare [Value.slice a len cap, .slice a' len' cap'].toArray).run P w = .ok (.int .i64 (Lib.compareBytes l l')) w := by
 change Sem.run P (do pure (goInt (Extern.BytealgCompare.cmp (← Extern.Bytes.bytesOf (.slice a len cap)) (← Extern.Bytes.bytesOf (.slice a' len' cap'))))) w = _
 simp only [Sem.run_bind, run_bytesOf hs, run_bytesOf hs', Result.andThen_ok, Sem.run_pure]
 rw [Lib.cmp_eq]
 rfl
theorem x_callV {x : Operand} {xs : List Operand} {ts : Array TypeId} {gf : FuncId} [TFn P gf] {lb : List Value} (hg : ev n env x = .func (.func gf) #[] lb.toArray) :
  Run P n env ⟨dst, .call ⟨.value x, xs.toArray, ts⟩, ty, pos, aft, g⟩ w (.ok (.enter gf ((xs.map (ev n env)) ++ lb).toArray) w) := by
 unfold Run
 simp [execOp, resolve, invoke, hg, Deferred.ofValue, run_callFunc]
theorem zeroCells_rep {z : Value} (hz : one z = true) (m : Nat) : (Builtin.zeroCells z.cells m).toList = List.replicate m z := by
 have hcells : z.cells = #[z] := by cases z <;> simp_all [one, Value.cells]
 unfold Builtin.zeroCells
 rw [hcells]
 apply List.ext_getElem
 ·simp
 ·intro i h1 h2
  simp [Nat.mod_one]
theorem rep_one {z : Value} (hz : one z = true) (m : Nat) : (List.replicate m z).all (·.oneCell') = true := by
 rw [List.all_eq_true]
 intro v hv
 rw [List.eq_of_mem_replicate hv]
 cases z <;> simp_all [one, Value.oneCell']
theorem r_clear {T E : TypeId} {z : Value} [hT : TU P T (.slice E)] [hZ : TZ P E z] {x : Operand} {b off m cap : Nat} {B : TypeId} {cs : List Value} (hx : ev n env x = .slice (some ⟨b, off, none⟩) m cap) (h0 : 0 < m)
  (hb : Blk w b B (0, 0) cs) (ho : off + m ≤ cs.length) (hz : one z = true) :
  ∃ v w', Run P n env ⟨dst, .call ⟨.builtin .clear, #[x], #[T]⟩, ty, pos, aft, g⟩ w (.ok (.value v) w') ∧ v = .tuple #[] ∧ Eff w w' b (.cells (lay cs off (List.replicate m z)).toArray B (0, 0)) := by
 obtain ⟨w', hr, hw⟩ := run_storeCells_eff (P := P) (b := b) (off := off) (E := B) (List.replicate m z) 0 cs w hb (by simpa using ho) (fun v hv => (List.all_eq_true.1 (rep_one hz m)) v hv)
 refine ⟨_, w', ?_, rfl, hw⟩
 obtain ⟨k, rfl⟩ : ∃ k, m = k + 1 := ⟨m - 1, by omega⟩
 unfold Run
 simp [execOp, hx, resolve, invoke, builtin, run_underlying hT.h, Builtin.clear_, run_zeroValue, zeroCells_rep hz, hr]
theorem x_clear0 {T E : TypeId} [hT : TU P T (.slice E)] {x : Operand} {a : Option Addr} {cap : Nat} (hx : ev n env x = .slice a 0 cap) :
  Run P n env ⟨dst, .call ⟨.builtin .clear, #[x], #[T]⟩, ty, pos, aft, g⟩ w (.ok (.value (.tuple #[])) w) := by
 unfold Run
 cases a <;> simp [execOp, hx, resolve, invoke, builtin, run_underlying hT.h, Builtin.clear_]
end
theorem eff_put {w : World} {l : Nat} {o : Obj} (h : l < w.heap.size) : Eff w (w.putObj l o) l o :=
 ⟨rfl, rfl, rfl, by simp, by simpa using h, World.putObj_heap_same h, fun j hj _ => World.putObj_heap_other hj⟩
theorem Blk.not_loop {w : World} {b l : Nat} {E : TypeId} {fz : Nat × Nat} {cs : List Value} {o : Loop} (h : Blk w b E fz cs) (hl : w.heap[l]? = some (.loop o)) : b ≠ l := by
 rintro rfl
 unfold Blk at h
 rw [hl] at h; cases h
theorem Blk.not_def {w : World} {b l : Nat} {E : TypeId} {fz : Nat × Nat} {cs : List Value} {o : Option (List Deferred)} (h : Blk w b E fz cs) (hl : w.heap[l]? = some (.deferred o)) : b ≠ l := by
 rintro rfl
 unfold Blk at h
 rw [hl] at h; cases h
theorem Seg.not_loop {w : World} {b off l : Nat} {vs : List Value} {o : Loop} (h : Seg w b off vs) (h0 : 0 < vs.length) (hl : w.heap[l]? = some (.loop o)) : b ≠ l := by
 rintro rfl
 have h1 := h 0 h0
 rw [List.getElem?_eq_getElem h0] at h1
 simp [World.cell?, hl] at h1
theorem Blk.ne {w : World} {b b' : Nat} {E E' : TypeId} {fz fz' : Nat × Nat} {cs cs' : List Value} (h : Blk w b E fz cs) (h' : Blk w b' E' fz' cs') (he : E ≠ E') : b ≠ b' := by
 rintro rfl
 unfold Blk at h h'
 rw [h] at h'
 injection h' with h'
 injection h' with _ h'
 exact he h'
theorem Own.blk_of {w : World} {E : TypeId} {s : Nat} {a : Option Addr} {m cap : Nat} {cs : List Value} (h : Own w E s a m cap cs) {j : Nat} (hj : blkOf a j) : ∃ cs', Blk w j E (0, 0) cs' := by
 obtain ⟨_, _, _, h4⟩ := h
 rcases h4 with ⟨rfl, _⟩ | ⟨b, sp, rfl, hB, _⟩
 ·simp [blkOf] at hj
 ·simp [blkOf] at hj; subst hj; exact ⟨_, hB⟩
theorem Own.ne {w : World} {E E' : TypeId} {s : Nat} {a : Option Addr} {m cap : Nat} {cs cs' : List Value} {b : Nat} {fz : Nat × Nat} (h : Own w E s a m cap cs) (h' : Blk w b E' fz cs') (he : E ≠ E') : ¬ blkOf a b := fun hj => by
 obtain ⟨_, hB⟩ := h.blk_of hj
 exact hB.ne h' he rfl
theorem lt_of_some {w : World} {l : Nat} {o : Obj} (hl : w.heap[l]? = some o) : l < w.heap.size := (Array.getElem?_eq_some_iff.1 hl).1
theorem At_beginRoundE {P : Program} {n : Nat} {R : Ending → World → Prop} {k : List Item} {env : Env} {w : World} {fn : FuncId} {l : Nat} {ds : List Deferred} {r : Loop} (hl : w.heap[l]? = some (.loop r)) (hr : r.state = .ready)
  (h : ∀ w', Eff w w' l (.loop { r with state := .busy }) → At P ⟨fn, some l, ds⟩ n R k env w') : At P ⟨fn, some l, ds⟩ n R (.beginRound :: k) env w :=
 At_beginRound hl hr (h _ (eff_put (lt_of_some hl)))
end Go.Kx
namespace Go.Kx
open Go
section
variable {P : Program} {n : Nat} {env : Env} {w : World} {dst : Option Tmp} {ty : TypeId} {pos : String} {aft : Array Edge} {g : Option (Nat × Bool)}
theorem Own.take {E : TypeId} {a : Option Addr} {m cap i : Nat} {cs : List Value} (h : Own w E 1 a m cap cs) (hi : i ≤ m) : Own w E 1 a i cap (cs.take i) := by
 obtain ⟨h1, h2, h3, h4⟩ := h
 refine ⟨by simp; omega, by omega, h3, h4.imp id ?_⟩
 rintro ⟨b, sp, rfl, hB, hl⟩
 have e : cs.take i ++ (cs.drop i ++ sp) = cs ++ sp := by rw [← List.append_assoc, List.take_append_drop]
 exact ⟨b, cs.drop i ++ sp, rfl, by rw [e]; exact hB, by rw [e]; exact hl⟩
theorem Own.some_of {E : TypeId} {a : Option Addr} {m cap : Nat} {cs : List Value} (h : Own w E 1 a m cap cs) (h0 : 0 < cap) : ∃ b sp, a = some ⟨b, 0, none⟩ ∧ Blk w b E (0, 0) (cs ++ sp) ∧ (cs ++ sp).length = cap ∧ cs.length = m := by
 obtain ⟨h1, h2, h3, h4⟩ := h
 rcases h4 with ⟨_, h⟩ | ⟨b, sp, e, hB, hl⟩
 ·omega
 ·exact ⟨b, sp, e, hB, by omega, by omega⟩
theorem Own.spot {E : TypeId} {a : Option Addr} {m cap : Nat} {cs : List Value} (h : Own w E 1 a m cap cs) : ∀ ad, a = some ad → ad.spot = none := by
 obtain ⟨_, _, _, h4⟩ := h
 rcases h4 with ⟨rfl, _⟩ | ⟨b, sp, rfl, _, _⟩
 ·intro ad h; cases h
 ·intro ad h; cases h; rfl
theorem x_slice_from {T E : TypeId} {s : Nat} [hT : TU P T (.slice E)] [hs : TSz P E s] {x lo : Operand} {a : Option Addr} {len cap l : Nat} {kl : IntKind} (hx : ev n env x = .slice a len cap) (ha : ∀ ad, a = some ad → ad.spot = none)
  (hh : ev n env lo = .int kl (l : Int)) (h : l ≤ len) (hc : len ≤ cap) :
  ∃ a', Run P n env ⟨dst, .slice T x (some lo) none none, ty, pos, aft, g⟩ w (.ok (.value (.slice a' (len - l) (cap - l))) w) := by
 have hb : (Instr.sliceBound (.int kl (l : Int)) len .sliceB).run P w = .ok l w := by
  have := run_sliceBound (P := P) (w := w) kl (l : Int) len .sliceB (by omega) (by omega)
  simpa using this
 unfold Run
 cases a with
 | none => exact ⟨none, by simp [execOp, hx, hh, Instr.sliceAt, Instr.slice, run_underlying hT.h, Instr.sliceBounds, hb, run_sizeOf hs.h]⟩
 | some ad =>
  by_cases hlc : cap = l
  ·exact ⟨some ad, by simp [execOp, hx, hh, Instr.sliceAt, Instr.slice, run_underlying hT.h, Instr.sliceBounds, hb, run_sizeOf hs.h, hlc]⟩
  ·exact ⟨some (ad.add (l * s)), by simp [execOp, hx, hh, Instr.sliceAt, Instr.slice, run_underlying hT.h, Instr.sliceBounds, hb, run_sizeOf hs.h, hlc]⟩
theorem r_slice_from {T E : TypeId} {s : Nat} [hT : TU P T (.slice E)] [hs : TSz P E s] {x lo : Operand} {a : Option Addr} {len cap l : Nat} {kl : IntKind} (hx : ev n env x = .slice a len cap) (ha : ∀ ad, a = some ad → ad.spot = none)
  (hh : ev n env lo = .int kl (l : Int)) (h : l ≤ len) (hc : len ≤ cap) :
  ∃ v w', Run P n env ⟨dst, .slice T x (some lo) none none, ty, pos, aft, g⟩ w (.ok (.value v) w') ∧ w = w' ∧ ∃ a', v = .slice a' (len - l) (cap - l) := by
 obtain ⟨a', hr⟩ := x_slice_from (P := P) (w := w) (dst := dst) (ty := ty) (pos := pos) (aft := aft) (g := g) (T := T) hx ha hh h hc
 exact ⟨_, _, hr, rfl, a', rfl⟩
theorem x_slice_fromN {T E : TypeId} [hT : TU P T (.slice E)] [hs : TSz P E 1] {x lo : Operand} {b off len cap l : Nat} {kl : IntKind} (hx : ev n env x = .slice (some ⟨b, off, none⟩) len cap)
  (hh : ev n env lo = .int kl (l : Int)) (h : l ≤ len) (hlt : l < cap) :
  Run P n env ⟨dst, .slice T x (some lo) none none, ty, pos, aft, g⟩ w (.ok (.value (.slice (some ⟨b, off + l, none⟩) (len - l) (cap - l))) w) := by
 have := x_slice_l (P := P) (w := w) (dst := dst) (ty := ty) (pos := pos) (aft := aft) (g := g) (T := T) hx hh (by omega) (by omega) (by omega)
 simpa using this
theorem zeroCells_one' (z : Value) (m : Nat) : Builtin.zeroCells #[z] m = (List.replicate m z).toArray := by
 apply Array.ext
 ·simp [Builtin.zeroCells]
 ·intro i h1 h2
  simp [Builtin.zeroCells, Nat.mod_one]
theorem r_append_zeros {T tn E : TypeId} {z : Value} {y : Nat} {kn : IntKind} [hT : TU P T (.slice E)] [hN : TU P tn (.int kn)] [TZ P E z] [TSz P E 1] [TBy P E y] {xd xs : Operand} {ki : IntKind} {a : Option Addr} {m cap k : Nat} {cs : List Value}
  (hd : ev n env xd = .slice a m cap) (hx : ev n env xs = .int ki (k : Int)) (ho : Own w E 1 a m cap cs) (hz : one z = true) (h0 : 0 < k) (hroom : cap < m + k) (h63 : m + k ≤ maxLen) (hby : (m + k) * y ≤ 140737488355328) :
  ∃ v w', Run P n env ⟨dst, .call ⟨.builtin .append, #[xd, xs], #[T, tn]⟩, ty, pos, aft, g⟩ w (.ok (.value v) w') ∧
   ∃ b cap', v = .slice (some ⟨b, 0, none⟩) (m + k) cap' ∧ b = w.heap.size ∧ Own w' E 1 (some ⟨b, 0, none⟩) (m + k) cap' (cs ++ List.replicate k z) ∧ Kp No w w' := by
 obtain ⟨i, hi, hiz, hsz, hby'⟩ := info_of (P := P) (T := E) (z := z) (s := 1) (y := y)
 subst hby'
 have hzc : z.cells = #[z] := by cases z <;> simp_all [one, Value.cells]
 obtain ⟨g1, g2, g3, g4⟩ := ho
 have hold : (Builtin.firstCells i.size m (.slice a m cap)).run P w.drew = .ok cs.toArray w.drew := by
  rw [hsz]
  rcases g4 with ⟨rfl, rfl⟩ | ⟨b, sp, rfl, hB, hl⟩
  ·have hm : m = 0 := by omega
   subst hm
   have hc : cs = [] := List.eq_nil_of_length_eq_zero (by simpa using g1)
   subst hc
   exact run_firstCells_none w.drew 1 0 0 0
  ·refine run_firstCells_some w.drew 1 m ⟨b, 0, none⟩ m cap cs (by omega) (fun j u hj => ?_)
   have hlt : j < cs.length := (List.getElem?_eq_some_iff.1 hj).1
   rw [add_none, Nat.zero_add]
   show w.cell? ⟨b, j, none⟩ = some u
   rw [hB.cell, List.getElem?_append_left hlt, hj]
 have hle : k * i.bytes ≤ (m + k) * i.bytes := Nat.mul_le_mul_right _ (by omega)
 have hr := Lib.run_append_grow_zeros (P := P) w T tn ty E i z ki kn hT.h hN.h hi hiz a m cap cs hold k h0 (by omega) hroom (by simp only [maxLen] at h63; omega) (by omega) (growslice_fits (by omega) hby)
 rw [hzc, zeroCells_one', zeroCells_one'] at hr
 have hge := grownCap_ge w (m + k) cap E
 have e := eff_push w.drew (.cells (cs.toArray ++ (List.replicate k z).toArray ++ (List.replicate (grownCap w (m + k) cap E - (m + k)) z).toArray) E)
 refine ⟨_, _, ?_, w.heap.size, grownCap w (m + k) cap E, rfl, rfl, ⟨by simp; omega, hge, grownCap_le_maxLen w (m + k) cap E h63, .inr ⟨_, List.replicate (grownCap w (m + k) cap E - (m + k)) z, rfl, ?_, by simp; omega⟩⟩, ⟨e.os, e.tape, e.output, e.size, fun j _ hl => e.other j (Nat.ne_of_lt hl) hl⟩⟩
 ·unfold Run
  simp only [execOp, resolve, invoke, builtin, hd, hx, List.map_toArray, List.map_cons, List.map_nil, Sem.run_bind, Sem.run_pure, Result.andThen_ok, hr]
  rfl
 ·have h1 := e.here
  unfold Blk
  rw [show (cs ++ List.replicate k z ++ List.replicate (grownCap w (m + k) cap E - (m + k)) z).toArray = cs.toArray ++ (List.replicate k z).toArray ++ (List.replicate (grownCap w (m + k) cap E - (m + k)) z).toArray by simp]
  exact h1
theorem Blk.src {T E B : TypeId} {b len cap : Nat} {fz : Nat × Nat} {cs : List Value} (hB : Blk w b B fz cs) (hT : P.underlying T = some (.slice E)) (hl : cs.length = len) (h1 : cs.all (·.oneCell') = true) : Src P 1 T (.slice (some ⟨b, 0, none⟩) len cap) len cs w :=
 Src.ofSlice w hT ⟨b, 0, none⟩ len cap cs (by omega) (fun j u hj => by rw [add_none, Nat.zero_add, hB.cell, hj]) (fun u hu => (List.all_eq_true.1 h1) u hu)
theorem run_overlaps_no {T R E A B : TypeId} {s b b' off la ca lb cb : Nat} {cs cs' : List Value} [hT : TU P T (.slice E)] [hs : TSz P E s] (hA : Blk w b A (0, 0) cs) (hB : Blk w b' B (0, 0) cs') (hne : b ≠ b') (h0 : 0 < cs'.length) :
  (Extern.SlicesOverlaps.overlaps #[T, T] #[R] [Value.slice (some ⟨b, 0, none⟩) la ca, .slice (some ⟨b', off, none⟩) lb cb].toArray).run P w = .ok (.bool false) w := by
 unfold Blk at hA hB
 refine Lib.run_overlaps_apart w T R E hT.h s (fun w => run_sizeOf hs.h) ⟨b, 0, none⟩ ⟨b', off, none⟩ la ca lb cb hne A B cs.length cs'.length ?_ ?_ (by omega) ?_ ?_
 ·simp [World.shape?, hA]
 ·simp [World.shape?, hB]
 ·simp [World.frozen?, hA]
 ·simp [World.frozen?, hA]
theorem lay_take {cs : List Value} {o : Nat} {vs : List Value} (h : o ≤ cs.length) : (lay cs o vs).take o = cs.take o := by
 unfold lay
 rw [List.append_assoc, List.take_append_of_le_length (by simp; omega), List.take_take, Nat.min_self]
theorem lay_insert {cs sp : List Value} {i : Nat} {x : Value} (hi : i < cs.length) (h0 : 0 < sp.length) : lay (lay (cs ++ sp) (i + 1) (cs.drop i)) i [x] = (cs.take i ++ x :: cs.drop i) ++ sp.drop 1 := by
 unfold lay
 have e1 : i + 1 + (cs.drop i).length = cs.length + 1 := by simp; omega
 have e2 : (cs ++ sp).drop (cs.length + 1) = sp.drop 1 := by rw [List.drop_append, List.drop_eq_nil_of_le (by omega), List.nil_append]; congr 1; omega
 have e3 : ((cs ++ sp).take (i + 1)).length = i + 1 := by simp; omega
 rw [e1, e2]
 have e4 : ((cs ++ sp).take (i + 1) ++ cs.drop i ++ sp.drop 1).take i = cs.take i := by
  rw [List.append_assoc, List.take_append_of_le_length (by omega), List.take_take, Nat.min_eq_left (by omega), List.take_append_of_le_length (by omega)]
 have e5 : ((cs ++ sp).take (i + 1) ++ cs.drop i ++ sp.drop 1).drop (i + [x].length) = cs.drop i ++ sp.drop 1 := by
  rw [List.append_assoc, show i + [x].length = ((cs ++ sp).take (i + 1)).length by rw [e3]; rfl, List.drop_left]
 rw [e4, e5]
 simp
theorem lay_insert2 {cs sp : List Value} {z x : Value} {i k : Nat} (hi : i ≤ cs.length) (hk : k = cs.length - i) : lay (lay (cs.take i ++ List.replicate (k + 1) z ++ sp) i [x]) (i + 1) (cs.drop i) = (cs.take i ++ x :: cs.drop i) ++ sp := by
 subst hk
 have l1 : (cs.take i).length = i := by simp; omega
 have e1 : lay (cs.take i ++ List.replicate (cs.length - i + 1) z ++ sp) i [x] = cs.take i ++ x :: (List.replicate (cs.length - i) z ++ sp) := by
  have e0 : cs.take i ++ List.replicate (cs.length - i + 1) z ++ sp = cs.take i ++ (z :: (List.replicate (cs.length - i) z ++ sp)) := by simp [List.replicate_succ]
  rw [e0]
  unfold lay
  rw [List.take_append_of_le_length (by omega), List.take_of_length_le (by omega)]
  rw [show i + [x].length = (cs.take i ++ [z]).length by simp; omega, show cs.take i ++ (z :: (List.replicate (cs.length - i) z ++ sp)) = (cs.take i ++ [z]) ++ (List.replicate (cs.length - i) z ++ sp) by simp, List.drop_left]
  simp
 rw [e1]
 unfold lay
 have l2 : (cs.take i ++ [x]).length = i + 1 := by simp; omega
 rw [show cs.take i ++ x :: (List.replicate (cs.length - i) z ++ sp) = (cs.take i ++ [x]) ++ (List.replicate (cs.length - i) z ++ sp) by simp]
 rw [List.take_append_of_le_length (by omega), List.take_of_length_le (by omega)]
 rw [show i + 1 + (cs.drop i).length = (cs.take i ++ [x]).length + (List.replicate (cs.length - i) z).length by rw [l2]; simp]
 rw [← List.drop_drop, List.drop_left, List.drop_left]
 simp
end
end Go.Kx
namespace Go.Kx
open Go
theorem foldl_lay (off : Nat) : ∀ (vs : List Value) (j : Nat) (cs : List Value), off + j + vs.length ≤ cs.length →
  (vs.zipIdx j).foldl (fun (c : Array Value) (x : Value × Nat) => c.setIfInBounds (off + x.2) x.1) cs.toArray = (lay cs (off + j) vs).toArray
 | [], j, cs, _ => by rw [lay_nil]; rfl
 | v :: vs, j, cs, h => by
  simp only [List.length_cons] at h
  have ih := foldl_lay off vs (j + 1) (cs.set (off + j) v) (by simp; omega)
  rw [show off + (j + 1) = off + j + 1 by omega, lay_cons (by omega)] at ih
  rw [← ih, List.zipIdx_cons, List.foldl_cons, List.setIfInBounds_toArray]
theorem fill_agg {place : Nat → Option (Nat × Nat)} {cs vs : List Value} {i off s : Nat} {rest : List (Nat × Value)} (hp : place i = some (off, s)) (hl : vs.length = s) (ho : off + s ≤ cs.length) :
  Instr.fill place cs.toArray ((i, .agg vs.toArray) :: rest) = Instr.fill place (lay cs off vs).toArray rest := by
 have h := foldl_lay off vs 0 cs (by omega)
 rw [Nat.add_zero] at h
 have hc : (Value.agg vs.toArray).cells = vs.toArray := rfl
 have hz : vs.toArray.zipIdx.foldl (fun (c : Array Value) (x : Value × Nat) => c.setIfInBounds (off + x.2) x.1) cs.toArray = (lay cs off vs).toArray := by rw [← h]; simp
 rw [Instr.fill, hp, hc]
 simp only
 rw [if_neg (by simp; omega), hz]
theorem fill_val {place : Nat → Option (Nat × Nat)} {cs : List Value} {v : Value} {i off : Nat} {rest : List (Nat × Value)} (hp : place i = some (off, 1)) (hv : one v = true) (ho : off < cs.length) :
  Instr.fill place cs.toArray ((i, v) :: rest) = Instr.fill place (cs.set off v).toArray rest := by
 have hcells : v.cells = #[v] := by cases v <;> simp_all [one, Value.cells]
 have hz : (#[v] : Array Value).zipIdx = #[(v, 0)] := rfl
 simp only [Instr.fill, hp, hcells, hz]
 rw [if_neg (by simp; omega)]
 simp
section
variable {P : Program} {n : Nat} {env : Env} {w : World} {dst : Option Tmp} {ty : TypeId} {pos : String} {aft : Array Edge} {g : Option (Nat × Bool)}
theorem x_arrayAt {T E : TypeId} {m : Nat} [hT : TU P T (.array m E)] {x : Operand} {a : Addr} {len cap : Nat} (hx : ev n env x = .slice (some a) len cap) (h : m ≤ len) :
  Run P n env ⟨dst, .sliceToArrayPointer T x, ty, pos, aft, g⟩ w (.ok (.value (.pointer (some a))) w) := by
 unfold Run
 simp [execOp, hx, Instr.arrayAt, run_underlying hT.h, show ¬ len < m by omega]
theorem r_buildSliceA {T E : TypeId} {s : Nat} {z : Value} [hT : TU P T (.slice E)] [hZ : TZ P E z] [hS : TSz P E s] {x : Operand} {vs : List Value} (hx : ev n env x = .agg vs.toArray) (hl : vs.length = s) (hz : z.cells.size = s) (h0 : 0 < s := by decide) (hm : s ≤ 16777216 := by decide) :
  ∃ v w', Run P n env ⟨dst, .buildSlice T 1 #[(0, x)], ty, pos, aft, g⟩ w (.ok (.value v) w') ∧ ∃ b, v = .slice (some ⟨b, 0, none⟩) 1 1 ∧ b = w.heap.size ∧ Eff w w' b (.cells vs.toArray E (0, 0)) := by
 refine ⟨_, { w with heap := w.heap.push (.cells vs.toArray E (0, 0)) }, ?_, w.heap.size, rfl, rfl, eff_push w _⟩
 have hzl : z.cells.toList.length = s := by simpa using hz
 have hrep2 : (Array.range s).map (fun x => z.cells.toList[x % s]?.getD default) = z.cells := by
  apply Array.ext
  ·simp [hz]
  ·intro i h1 h2
   have h3 : i < s := by simpa using h1
   simp [Nat.mod_eq_of_lt h3, h2]
 have hf : Instr.fill (fun i => some (i * s, s)) z.cells [(0, .agg vs.toArray)] = some vs.toArray := by
  have := fill_agg (place := fun i => some (i * s, s)) (cs := z.cells.toList) (vs := vs) (i := 0) (off := 0) (s := s) (rest := []) (by simp) hl (by simp; omega)
  simp only [Array.toArray_toList] at this
  rw [this]
  have e : lay z.cells.toList 0 vs = vs := by simp [lay, List.drop_of_length_le (show z.cells.toList.length ≤ vs.length by simp; omega)]
  rw [e]; rfl
 have hall : ((Array.range (1 * s)).map (fun x => z.cells[x % z.cells.size]!)) = z.cells := by
  rw [Nat.one_mul, hz]
  apply Array.ext
  ·simp [hz]
  ·intro i h1 h2
   have h3 : i < s := by simpa using h1
   rw [Array.getElem_map, Array.getElem_range, Nat.mod_eq_of_lt h3]
   exact getElem!_pos z.cells i h2
 unfold Run
 have h1 : ¬ (1 * s > 2 ^ 24) := by omega
 have h2 : ¬ (1 * s = 0) := by omega
 simp only [execOp, Instr.buildSlice, Sem.run_bind, run_underlying hT.h, Result.andThen_ok, run_sizeOf hS.h, Sem.run_ite, h1, h2, if_false, run_zeroValue, Sem.run_pure, hall, hx, List.map_cons, List.map_nil, List.map_toArray, hf, newRow]
 rfl
end
end Go.Kx
namespace Go.Kx
open Go
section
variable {P : Program} {ops : Array Oper} {Q : Exit → Act → World → Prop} {md : Region.Mode} {S : World → Prop}
def wpAnyL (P : Program) (md : Region.Mode) (ops : Array Oper) (Q : Exit → Act → World → Prop) (S : World → Prop) (f : Nat) : Nat → Array Bool → Act → World → Prop
 | 0, listed, a, w => Region.ready md ops listed = [] ∧ Q .normal a w
 | fuel + 1, listed, a, w =>
  (Region.ready md ops listed = [] → Q .normal a w) ∧
  ∀ i ∈ Region.ready md ops listed, wpOp P ops Q i (fun a' w' => (i = f ∨ S w') ∧ wpAnyL P md ops Q S f fuel (listed.setIfInBounds i true) a' w') a w
theorem wpAny_of_L {f : Nat} : ∀ (fuel : Nat) (listed : Array Bool) (a : Act) (w : World), wpAnyL P md ops Q S f fuel listed a w → wpAny P md ops Q fuel listed a w
 | 0, _, _, _, h => h
 | fuel + 1, _, _, _, h => ⟨h.1, fun i hi => wpOp_mono (fun a' w' h' => wpAny_of_L fuel _ a' w' h'.2) (h.2 i hi)⟩
def reaches (md : Region.Mode) (ops : Array Oper) : Nat → Nat → Nat → Bool
 | 0, _, _ => false
 | d + 1, f, i => match ops[f]? with
  | none => false
  | some o => o.after.any fun e => Region.binds md e && (e.on == i || reaches md ops d e.on i)
def Closed (md : Region.Mode) (ops : Array Oper) (listed : Array Bool) : Prop := ∀ k o, listed.getD k false = true → ops[k]? = some o → ∀ e ∈ o.after, Region.binds md e = true → listed.getD e.on false = true
def closedB (md : Region.Mode) (ops : Array Oper) (listed : Array Bool) : Bool :=
 (List.range ops.size).all fun k => !(listed.getD k false) || (match ops[k]? with | some o => o.after.all fun e => !(Region.binds md e) || listed.getD e.on false | none => true)
theorem closed_of {listed : Array Bool} (h : closedB md ops listed = true) : Closed md ops listed := by
 intro k o hk ho e he hb
 have hlt : k < ops.size := (Array.getElem?_eq_some_iff.1 ho).1
 have h1 := List.all_eq_true.1 h k (List.mem_range.2 hlt)
 simp only [hk, ho, Bool.not_true, Bool.false_or] at h1
 have h2 := Array.all_eq_true_iff_forall_mem.1 h1 e he
 simpa [hb] using h2
theorem closed_set {listed : Array Bool} {j : Nat} (hc : Closed md ops listed) (hj : j ∈ Region.ready md ops listed) : Closed md ops (listed.setIfInBounds j true) := by
 intro k o hk ho e he hb
 obtain ⟨_, oj, hoj, hall⟩ := mem_ready.1 hj
 by_cases hjk : j = k
 ·subst hjk
  rw [hoj] at ho
  cases ho
  exact getD_set_true (hall e he hb)
 ·have hk' : listed.getD k false = true := by
   simpa [Array.getElem?_setIfInBounds_ne hjk] using hk
  exact getD_set_true (hc k o hk' ho e he hb)
theorem reaches_listed {listed : Array Bool} {i : Nat} (hc : Closed md ops listed) : ∀ (d f : Nat) (o : Oper), ops[f]? = some o → (∀ e ∈ o.after, Region.binds md e = true → listed.getD e.on false = true) → reaches md ops d f i = true → listed.getD i false = true
 | 0, _, _, _, _, h => by simp [reaches] at h
 | d + 1, f, o, ho, hall, h => by
  simp only [reaches, ho] at h
  obtain ⟨ix, hix, h⟩ := Array.any_eq_true.1 h
  have he := Array.getElem_mem hix
  generalize o.after[ix] = e at he h
  simp only [Bool.and_eq_true, Bool.or_eq_true, beq_iff_eq] at h
  obtain ⟨hb, h⟩ := h
  have hl := hall e he hb
  rcases h with rfl | h
  ·exact hl
  ·cases ho' : ops[e.on]? with
   | none =>
    cases d with
    | zero => simp [reaches] at h
    | succ d => simp [reaches, ho'] at h
   | some o' => exact reaches_listed hc d e.on o' ho' (fun e' he' hb' => hc _ _ hl ho' e' he' hb') h
theorem unlisted_of {listed : Array Bool} {i : Nat} (h : listed.getD i true = false) : listed.getD i false = false := by
 rcases Nat.lt_or_ge i listed.size with h' | h'
 ·simp [h'] at h ⊢; exact h
 ·simp [Array.getElem?_eq_none h'] at h
theorem wpAnyL_first {f d i : Nat} {oi : Oper} {v : Value} (hi : ops[i]? = some oi) (hsel : ∀ (j : Nat) (o : Oper) cs b, ops[j]? = some o → o.op ≠ .select cs b)
  (hQ : ∀ c a w, Q (.panic c) (a.put oi.dst v) w → Q (.panic c) a w) (hre : reaches md ops d f i = true) :
  ∀ (fuel : Nat) (listed : Array Bool) (a : Act) (w : World), Closed md ops listed →
   (∀ j oj, ops[j]? = some oj → j ≠ i → listed.getD j true = false → (∀ e ∈ oj.after, Region.binds md e = true → e.on ≠ i) → oi.apart ops oj = true) →
   i ∈ Region.ready md ops listed → YieldsIf P ops S oi v a → S w →
   wpAnyL P md ops Q S f fuel (listed.setIfInBounds i true) (a.put oi.dst v) w → wpAnyL P md ops Q S f (fuel + 1) listed a w := by
 intro fuel
 induction fuel with
 | zero =>
  intro listed a w hc _ hr hy hS H
  refine ⟨fun h => (by rw [h] at hr; cases hr), fun j hj => ?_⟩
  by_cases hji : j = i
  ·subst hji; exact hy.wpOp hi hS ⟨.inr hS, H⟩
  ·have := ready_mono hj hji
   rw [H.1] at this
   cases this
 | succ fuel ih =>
  intro listed a w hc hfree hr hy hS H
  refine ⟨fun h => (by rw [h] at hr; cases hr), fun j hj => ?_⟩
  by_cases hji : j = i
  ·subst hji; exact hy.wpOp hi hS ⟨.inr hS, H⟩
  ·have h1 := H.2 j (ready_mono hj hji)
   obtain ⟨hjun, oj, hoj, hall⟩ := mem_ready.1 hj
   have hun := unlisted_of (mem_ready.1 hr).1
   have hjf : j ≠ f := by
    rintro rfl
    rw [reaches_listed hc d j oj hoj hall hre] at hun; cases hun
   have hnot : ∀ e ∈ oj.after, Region.binds md e = true → e.on ≠ i := fun e he hb heq => by
    have h1 := hall e he hb
    rw [heq, hun] at h1; cases h1
   have h2 := wpOp_putIf hoj (hfree j oj hoj hji hjun hnot) (fun cs b => hsel i oi cs b hi) (fun cs b => hsel j oj cs b hoj) hQ hy h1
   have hfree' : ∀ k ok, ops[k]? = some ok → k ≠ i → (listed.setIfInBounds j true).getD k true = false →
     (∀ e ∈ ok.after, Region.binds md e = true → e.on ≠ i) → oi.apart ops ok = true := fun k ok hk hki hun hno => by
    refine hfree k ok hk hki ?_ hno
    by_cases hjk : j = k
    ·subst hjk; exact hjun
    ·rw [getD_set_ne true hjk] at hun; exact hun
   refine wpOp_mono (fun a' w' h3 => ⟨h3.2.1, ih (listed.setIfInBounds j true) a' w' (closed_set hc hj) hfree' (ready_mono hr (Ne.symm hji)) h3.1 (h3.2.1.resolve_left hjf) ?_⟩) h2
   rw [Array.setIfInBounds_comm _ _ hji]
   exact h3.2.2
end
section
attribute [local semireducible] At AtR AtG Run
variable {P : Program} {f : Fm} {n : Nat} {R : Ending → World → Prop} {k : List Item} {env : Env} {w : World} {S : World → Prop} {ops : Array Oper} {z : Nat}
def AtL (P : Program) (f : Fm) (n : Nat) (R : Ending → World → Prop) (ops : Array Oper) (S : World → Prop) (z : Nat) (k : List Item) (fuel : Nat) (listed : Array Bool) (env : Env) (w : World) : Prop :=
 wpAnyL P .any ops (AtQ P f n R k) S z fuel listed (mkF f n env) w
theorem AtL_draw {id : Nat} (S : World → Prop) (z : Nat) (hm : P.follows .mixedOrders = true) (h : AtL P f n R ops S z k ops.size (Array.replicate ops.size false) env w.drew) (h0 : f.round = none := by rfl) :
  At P f n R (.code (.region id ops true) :: k) env w :=
 At_wp (wp_region_any hm (wpAny_of_L _ _ _ _ h)) h0
def canTakeL (ops : Array Oper) (z : Nat) (listed : Array Bool) (i : Nat) : Bool := canTake ops listed i && closedB .any ops listed && reaches .any ops ops.size z i
theorem AtL_take {fuel : Nat} {listed : Array Bool} (i : Nat) {o : Oper} {v : Value} (hi : ops[i]? = some o) (hc : canTakeL ops z listed i = true) (hg : gsays ops n env o true)
  (hr : ∀ w, S w → Run P n env o w (.ok (.value v) w)) (hS : S w) (h : AtL P f n R ops S z k fuel (listed.setIfInBounds i true) (updo env o.dst v) w) :
  AtL P f n R ops S z k (fuel + 1) listed env w := by
 simp only [canTakeL, canTake, Bool.and_eq_true] at hc
 refine wpAnyL_first hi (Region.noSelect_spec hc.1.1.1.1) (fun _ _ _ hq => absurd hq.1 (by simp)) hc.2 fuel listed _ _ (closed_of hc.1.2) (Region.free_spec hi hc.1.1.1.2) (by simpa using hc.1.1.2) (v := v) (.inl ⟨wanted_gsays hg, fun w hw => ?_⟩) hS ?_
 ·rw [eval_mkF]; exact hr w hw
 ·rw [mkF_put]; exact h
theorem AtL_bool {fuel : Nat} {listed : Array Bool} (i : Nat) {o : Oper} {p bv : Bool} (hi : ops[i]? = some o) (hc : canTakeL ops z listed i = true) (hg : gsays ops n env o true)
  (hr : ∀ w, S w → Run P n env o w (.ok (.value (.bool p)) w)) (hp : p = bv) (hS : S w) (h : AtL P f n R ops S z k fuel (listed.setIfInBounds i true) (updo env o.dst (.bool bv)) w) :
  AtL P f n R ops S z k (fuel + 1) listed env w := by
 subst hp; exact AtL_take i hi hc hg hr hS h
theorem AtL_no {fuel : Nat} {listed : Array Bool} (i : Nat) {o : Oper} (hi : ops[i]? = some o) (hc : canTakeL ops z listed i = true) (hg : gsays ops n env o false)
  (hS : S w) (h : AtL P f n R ops S z k fuel (listed.setIfInBounds i true) (updo env o.dst undef) w) :
  AtL P f n R ops S z k (fuel + 1) listed env w := by
 simp only [canTakeL, canTake, Bool.and_eq_true] at hc
 refine wpAnyL_first hi (Region.noSelect_spec hc.1.1.1.1) (fun _ _ _ hq => absurd hq.1 (by simp)) hc.2 fuel listed _ _ (closed_of hc.1.2) (Region.free_spec hi hc.1.1.1.2) (by simpa using hc.1.1.2) (v := undef) (.inr ⟨wanted_gsays hg, rfl⟩) hS ?_
 rw [mkF_put]; exact h
theorem AtL_done {fuel : Nat} {listed : Array Bool} (hr : (Region.ready .any ops listed).isEmpty = true) (h : At P f n R k env w) : AtL P f n R ops S z k fuel listed env w := by
 have h0 : Region.ready .any ops listed = [] := by simpa using hr
 have hq : AtQ P f n R k .normal (mkF f n env) w := ⟨rfl, env, rfl, h⟩
 cases fuel with
 | zero => exact ⟨h0, hq⟩
 | succ fuel => exact ⟨fun _ => hq, by rw [h0]; simp⟩
theorem AtL_op {fuel : Nat} {listed : Array Bool} (i : Nat) (hr : Region.ready .any ops listed = [i])
  (h : wpOp P ops (AtQ P f n R k) i (fun a' w' => (i = z ∨ S w') ∧ wpAnyL P .any ops (AtQ P f n R k) S z fuel (listed.setIfInBounds i true) a' w') (mkF f n env) w) : AtL P f n R ops S z k (fuel + 1) listed env w :=
 ⟨(fun h0 => by rw [hr] at h0; cases h0), fun j hj => by
  rw [hr] at hj
  have : j = i := by simpa using hj
  subst this; exact h⟩
theorem L_val {fuel : Nat} {listed : Array Bool} (i : Nat) {o : Oper} {T : Value → World → Prop} (hi : ops[i]? = some o) (hr : Region.ready .any ops listed = [i]) (hg : gsays ops n env o true)
  (h : ∃ v w', Run P n env o w (.ok (.value v) w') ∧ T v w') (hk : ∀ v w', T v w' → (i = z ∨ S w') ∧ AtL P f n R ops S z k fuel (listed.setIfInBounds i true) (updo env o.dst v) w') : AtL P f n R ops S z k (fuel + 1) listed env w := by
 obtain ⟨v, w', hrun, hq⟩ := h
 refine AtL_op i hr ?_
 unfold wpOp
 simp only [hi]
 rw [if_pos (wanted_gsays hg)]
 refine .inl ?_
 unfold Run at hrun
 unfold Oper.wp
 rw [eval_mkF, hrun]
 simp only [Oper.upon, mkF_put]
 exact hk v w' hq
theorem L_skip {fuel : Nat} {listed : Array Bool} (i : Nat) {o : Oper} {T : World → Prop} (hi : ops[i]? = some o) (hr : Region.ready .any ops listed = [i]) (hg : gsays ops n env o true)
  (h : ∃ w', Run P n env o w (.ok .skip w') ∧ T w') (hk : ∀ w', T w' → (i = z ∨ S w') ∧ AtL P f n R ops S z k fuel (listed.setIfInBounds i true) (updo env o.dst undef) w') : AtL P f n R ops S z k (fuel + 1) listed env w := by
 obtain ⟨w', hrun, hq⟩ := h
 refine AtL_op i hr ?_
 unfold wpOp
 simp only [hi]
 rw [if_pos (wanted_gsays hg)]
 refine .inl ?_
 unfold Run at hrun
 unfold Oper.wp
 rw [eval_mkF, hrun]
 simp only [Oper.upon, mkF_put]
 exact hk w' hq
theorem AtL_call {fuel : Nat} {listed : Array Bool} (i : Nat) {o : Oper} {gf : FuncId} {args : Array Value} {w' : World} {T : Ending → World → Prop} (hi : ops[i]? = some o) (hr : Region.ready .any ops listed = [i]) (hg : gsays ops n env o true)
  (hrun : Run P n env o w (.ok (.enter gf args) w')) (hc : Calls P gf args w' T)
  (h : ∀ e w'', T e w'' → ∃ v, e = .returned v ∧ (i = z ∨ S w'') ∧ AtL P f n R ops S z k fuel (listed.setIfInBounds i true) (updo env o.dst v) w'') : AtL P f n R ops S z k (fuel + 1) listed env w := by
 refine AtL_op i hr ?_
 unfold wpOp
 simp only [hi]
 rw [if_pos (wanted_gsays hg)]
 refine .inl ?_
 unfold Run at hrun
 unfold Oper.wp
 rw [eval_mkF, hrun]
 simp only [Oper.upon]
 refine hc.mono fun e w'' hq => ?_
 obtain ⟨v, rfl, hS, h'⟩ := h e w'' hq
 simp only [mkF_put]
 exact ⟨hS, h'⟩
theorem r_box {dst : Option Tmp} {T : TypeId} {x : Operand} {ty : TypeId} {pos : String} {aft : Array Edge} {g : Option (Nat × Bool)} {v : Value} (hx : ev n env x = v) :
  ∃ u w', Run P n env ⟨dst, .box T x, ty, pos, aft, g⟩ w (.ok (.value u) w') ∧ ∃ b, u = .pointer (some ⟨b, 0, none⟩) ∧ b = w.heap.size ∧ Eff w w' b (.cells v.cells T (0, 0)) := by
 refine ⟨.pointer (some ⟨w.heap.size, 0, none⟩), { w with heap := w.heap.push (.cells v.cells T (0, 0)) }, ?_, _, rfl, rfl, eff_push w _⟩
 unfold Run; simp [execOp, Instr.box, newVar, newRow, hx]
end
attribute [irreducible] AtL
end Go.Kx
namespace Go.Kr
open Go
def lt (a b : List UInt8) : Bool := Go.Op.bytesLess a b
theorem lt_nil (a : List UInt8) : lt a [] = false := by cases a <;> rfl
theorem lt_cons (a b : UInt8) (x y : List UInt8) : lt (a :: x) (b :: y) = (a < b || (a == b && lt x y)) := rfl
theorem cmp_lt : ∀ (a b : List UInt8), Lib.compareBytes a b = if lt a b = true then -1 else if a = b then 0 else 1
 | [], [] => rfl
 | [], _ :: _ => rfl
 | _ :: _, [] => rfl
 | a :: as, b :: bs => by
  unfold Lib.compareBytes
  rw [cmp_lt as bs, lt_cons]
  by_cases h : a < b
  ·simp [h]
  ·by_cases h2 : b < a
   ·have hne : a ≠ b := fun e => by subst e; exact absurd h2 (UInt8.lt_irrefl a)
    simp [h, h2, hne]
   ·have he : a = b := UInt8.le_antisymm (UInt8.not_lt.1 h2) (UInt8.not_lt.1 h)
    subst he
    simp [h]
theorem lt_irrefl : ∀ a : List UInt8, lt a a = false
 | [] => rfl
 | a :: as => by rw [lt_cons]; simp [lt_irrefl as]
theorem lt_trans : ∀ {a b c : List UInt8}, lt a b = true → lt b c = true → lt a c = true
 | _, _, [], _, h => by rw [lt_nil] at h; cases h
 | _, [], _ :: _, h, _ => by rw [lt_nil] at h; cases h
 | [], _ :: _, _ :: _, _, _ => rfl
 | a :: as, b :: bs, c :: cs, h1, h2 => by
  rw [lt_cons] at h1 h2 ⊢
  simp only [Bool.or_eq_true, decide_eq_true_eq, Bool.and_eq_true, beq_iff_eq] at h1 h2 ⊢
  rcases h1 with h1 | ⟨rfl, h1⟩
  ·rcases h2 with h2 | ⟨rfl, _⟩
   ·exact .inl (UInt8.lt_trans h1 h2)
   ·exact .inl h1
  ·rcases h2 with h2 | ⟨rfl, h2⟩
   ·exact .inl h2
   ·exact .inr ⟨rfl, lt_trans h1 h2⟩
theorem lt_total : ∀ (a b : List UInt8), lt a b = false → a ≠ b → lt b a = true
 | [], [], _, h => absurd rfl h
 | [], _ :: _, h, _ => by cases h
 | _ :: _, [], _, _ => rfl
 | a :: as, b :: bs, h, hn => by
  rw [lt_cons] at h ⊢
  simp only [Bool.or_eq_false_iff, decide_eq_false_iff_not, Bool.and_eq_false_imp, beq_iff_eq, Bool.or_eq_true, decide_eq_true_eq, Bool.and_eq_true] at h ⊢
  by_cases e : a = b
  ·subst e
   exact .inr ⟨rfl, lt_total as bs (h.2 rfl) (fun e => hn (by rw [e]))⟩
  ·exact .inl (UInt8.lt_of_le_of_ne (UInt8.not_lt.1 h.1) (Ne.symm e))
theorem lt_asymm {a b : List UInt8} (h : lt a b = true) : lt b a = false := by
 cases hb : lt b a with
 | false => rfl
 | true => have := lt_trans h hb; rw [lt_irrefl] at this; cases this
theorem cmp_neg (a b : List UInt8) : decide (Lib.compareBytes a b < 0) = lt a b := by
 rw [cmp_lt]
 cases h : lt a b <;> simp
 split <;> omega
theorem cmp_zero (a b : List UInt8) : decide (Lib.compareBytes a b = 0) = decide (a = b) := by
 rw [cmp_lt]
 by_cases e : a = b
 ·subst e; simp [lt_irrefl]
 ·cases h : lt a b <;> simp [e]
structure Ent where
 id : List UInt8
 key : List UInt8
 holds : Nat
instance : Inhabited Ent := ⟨[], [], 0⟩
abbrev Ring := List Ent
def Sorted (L : Ring) : Prop := L.Pairwise fun x y => lt x.id y.id = true
def pos (id : List UInt8) (L : Ring) : Nat := (L.takeWhile fun e => lt e.id id).length
def hit (id : List UInt8) (L : Ring) : Bool := match L[pos id L]? with | some e => e.id == id | none => false
def ent (id : List UInt8) (L : Ring) : Ent := L.getD (pos id L) default
theorem pos_le (id : List UInt8) (L : Ring) : pos id L ≤ L.length := List.Sublist.length_le (List.takeWhile_sublist _)
theorem pos_lt {id : List UInt8} : ∀ {L : Ring} {i : Nat} (h : i < L.length), i < pos id L → lt (L[i]).id id = true
 | [], _, h, _ => absurd h (Nat.not_lt_zero _)
 | e :: L, i, h, hi => by
  unfold pos at hi
  rw [List.takeWhile_cons] at hi
  cases he : lt e.id id with
  | false => simp [he] at hi
  | true =>
   cases i with
   | zero => exact he
   | succ i => exact pos_lt (L := L) (by simpa using h) (by simpa [he, pos] using hi)
theorem pos_ge {id : List UInt8} : ∀ {L : Ring} {i : Nat} (_ : Sorted L) (h : i < L.length), pos id L ≤ i → lt (L[i]).id id = false
 | [], _, _, h, _ => absurd h (Nat.not_lt_zero _)
 | e :: L, i, hs, h, hi => by
  unfold pos at hi
  rw [List.takeWhile_cons] at hi
  have hs' := List.pairwise_cons.1 hs
  cases he : lt e.id id with
  | false =>
   cases i with
   | zero => exact he
   | succ i =>
    have hi' : i < L.length := by simpa using h
    have h1 := hs'.1 L[i] (List.getElem_mem hi')
    show lt (L[i]).id id = false
    rcases Bool.eq_false_or_eq_true (lt (L[i]).id id) with h2 | h2
    rotate_left
    ·exact h2
    ·have := lt_trans h1 h2; rw [he] at this; cases this
  | true =>
   cases i with
   | zero => simp [he] at hi
   | succ i => exact pos_ge (L := L) hs'.2 (by simpa using h) (by simpa [he, pos] using hi)
theorem pos_eq {id : List UInt8} {L : Ring} {i : Nat} (hs : Sorted L) (h : i < L.length) (he : (L[i]).id = id) : pos id L = i := by
 rcases Nat.lt_trichotomy (pos id L) i with h1 | h1 | h1
 ·have h2 := pos_ge (id := id) hs (show pos id L < L.length by omega) (Nat.le_refl _)
  have h3 := List.pairwise_iff_getElem.1 hs (pos id L) i (by omega) h h1
  rw [he, h2] at h3; cases h3
 ·exact h1
 ·have := pos_lt h h1
  rw [he, lt_irrefl] at this; cases this
theorem hit_iff {id : List UInt8} {L : Ring} : hit id L = true ↔ ∃ h : pos id L < L.length, (L[pos id L]).id = id := by
 unfold hit
 by_cases h : pos id L < L.length
 ·simp [h]
 ·simp [h]
theorem hit_of {id : List UInt8} {L : Ring} {i : Nat} (hs : Sorted L) (h : i < L.length) (he : (L[i]).id = id) : hit id L = true := by
 have e := pos_eq hs h he
 exact hit_iff.2 ⟨by omega, by simp only [e]; exact he⟩
theorem ent_eq {id : List UInt8} {L : Ring} (h : hit id L = true) : ∃ hl : pos id L < L.length, ent id L = L[pos id L] ∧ (ent id L).id = id := by
 obtain ⟨hl, he⟩ := hit_iff.1 h
 have : ent id L = L[pos id L] := by simp [ent, List.getD, hl]
 exact ⟨hl, this, by rw [this]; exact he⟩
def stat (id : List UInt8) (L : Ring) : Nat := if hit id L then (if (ent id L).key = [] then 2 else 1) else 0
def add (id key : List UInt8) (L : Ring) : Ring :=
 if hit id L then L.set (pos id L) { ent id L with key := key } else L.take (pos id L) ++ ⟨id, key, 0⟩ :: L.drop (pos id L)
def addOk (id key : List UInt8) (L : Ring) : Nat := if key.length < 16 ∨ 64 < key.length then 2 else if hit id L = false ∧ 16 ≤ L.length then 12 else 0
def drop (i : Nat) (e : Ent) (L : Ring) : Ring := if e.holds = 0 ∧ e.key = [] then L.eraseIdx i else L.set i e
def remove (id : List UInt8) (L : Ring) : Ring := drop (pos id L) { ent id L with key := [] } L
def hold (id : List UInt8) (L : Ring) : Ring := L.set (pos id L) { ent id L with holds := (ent id L).holds + 1 }
def release (id : List UInt8) (L : Ring) : Ring := drop (pos id L) { ent id L with holds := (ent id L).holds - 1 } L
structure Good (L : Ring) : Prop where
 sorted : Sorted L
 ids : ∀ e ∈ L, e.id.length = 16
 kept : ∀ e ∈ L, ¬ (e.holds = 0 ∧ e.key = [])
 keys : ∀ e ∈ L, e.key.length ≤ 64
 few : L.length ≤ 16
theorem Good.nil : Good [] := ⟨List.Pairwise.nil, (fun _ h => by cases h), (fun _ h => by cases h), (fun _ h => by cases h), by simp⟩
theorem sorted_set {L : Ring} {i : Nat} {e : Ent} (hs : Sorted L) (he : ∀ h : i < L.length, e.id = (L[i]).id) : Sorted (L.set i e) := by
 unfold Sorted
 rw [List.pairwise_iff_getElem]
 intro j k hj hk hjk
 have h := List.pairwise_iff_getElem.1 hs j k (by simpa using hj) (by simpa using hk) hjk
 rw [List.getElem_set, List.getElem_set]
 split
 ·rename_i h1; subst h1
  rw [if_neg (by omega), he]; exact h
 ·split
  ·rename_i h1; subst h1; rw [he]; exact h
  ·exact h
theorem sorted_erase {L : Ring} {i : Nat} (hs : Sorted L) : Sorted (L.eraseIdx i) := List.Pairwise.sublist (List.eraseIdx_sublist _ _) hs
theorem good_set {L : Ring} {i : Nat} {e : Ent} (h : Good L) (he : ∀ h : i < L.length, e.id = (L[i]).id) (hk : ¬ (e.holds = 0 ∧ e.key = [])) (hl : e.key.length ≤ 64) : Good (L.set i e) := by
 refine ⟨sorted_set h.sorted he, fun x hx => ?_, fun x hx => ?_, fun x hx => ?_, by simpa using h.few⟩
 ·rcases List.mem_or_eq_of_mem_set hx with h1 | rfl
  ·exact h.ids x h1
  ·by_cases hi : i < L.length
   ·rw [he hi]; exact h.ids _ (List.getElem_mem hi)
   ·rw [List.set_eq_of_length_le (by omega)] at hx; exact h.ids _ hx
 ·rcases List.mem_or_eq_of_mem_set hx with h1 | rfl
  ·exact h.kept x h1
  ·exact hk
 ·rcases List.mem_or_eq_of_mem_set hx with h1 | rfl
  ·exact h.keys x h1
  ·exact hl
theorem good_erase {L : Ring} {i : Nat} (h : Good L) : Good (L.eraseIdx i) := by
 have hsub := List.eraseIdx_sublist L i
 exact ⟨sorted_erase h.sorted, fun x hx => h.ids x (hsub.subset hx), fun x hx => h.kept x (hsub.subset hx), fun x hx => h.keys x (hsub.subset hx), Nat.le_trans hsub.length_le h.few⟩
theorem good_drop {L : Ring} {i : Nat} {e : Ent} (h : Good L) (he : ∀ h : i < L.length, e.id = (L[i]).id) (hl : e.key.length ≤ 64) : Good (drop i e L) := by
 unfold drop
 split
 ·exact good_erase h
 ·exact good_set h he ‹_› hl
theorem sorted_insert {L : Ring} {id key : List UInt8} {n : Nat} (hs : Sorted L) (hh : hit id L = false) : Sorted (L.take (pos id L) ++ ⟨id, key, n⟩ :: L.drop (pos id L)) := by
 unfold Sorted
 rw [List.pairwise_append]
 refine ⟨List.Pairwise.sublist (List.take_sublist _ _) hs, ?_, ?_⟩
 ·rw [List.pairwise_cons]
  refine ⟨fun x hx => ?_, List.Pairwise.sublist (List.drop_sublist _ _) hs⟩
  obtain ⟨j, hj, rfl⟩ := List.mem_iff_getElem.1 hx
  simp only [List.length_drop] at hj
  rw [List.getElem_drop]
  have h1 := pos_ge (id := id) hs (show pos id L + j < L.length by omega) (by omega)
  refine lt_total _ _ h1 fun e => ?_
  have := hit_of hs (show pos id L + j < L.length by omega) e
  rw [hh] at this; cases this
 ·intro x hx y hy
  obtain ⟨j, hj, rfl⟩ := List.mem_iff_getElem.1 hx
  simp only [List.length_take] at hj
  rw [List.getElem_take]
  have h1 := pos_lt (id := id) (show j < L.length by omega) (by omega)
  rcases List.mem_cons.1 hy with rfl | hy
  ·exact h1
  ·obtain ⟨m, hm, rfl⟩ := List.mem_iff_getElem.1 hy
   simp only [List.length_drop] at hm
   rw [List.getElem_drop]
   exact List.pairwise_iff_getElem.1 hs j (pos id L + m) (by omega) (by omega) (by omega)
theorem good_add {L : Ring} {id key : List UInt8} (h : Good L) (hi : id.length = 16) (hk : addOk id key L = 0) : Good (add id key L) := by
 unfold addOk at hk
 split at hk
 ·cases hk
 rename_i hk1
 split at hk
 ·cases hk
 rename_i hk2
 have hne : ¬ (key = []) := fun e => by subst e; exact hk1 (.inl (by simp))
 unfold add
 cases hh : hit id L with
 | true =>
  obtain ⟨hl, e1, e2⟩ := ent_eq hh
  simp only [if_true]
  exact good_set h (fun _ => by simp only [e1]) (fun hc => hne hc.2) (by simp only; omega)
 | false =>
  have hlen : L.length < 16 := by
   rcases Nat.lt_or_ge L.length 16 with h1 | h1
   ·exact h1
   ·exact absurd ⟨hh, h1⟩ hk2
  simp only [Bool.false_eq_true, if_false]
  refine ⟨sorted_insert h.sorted hh, fun x hx => ?_, fun x hx => ?_, fun x hx => ?_, ?_⟩
  ·rcases List.mem_append.1 hx with h1 | h1
   ·exact h.ids x (List.mem_of_mem_take h1)
   ·rcases List.mem_cons.1 h1 with rfl | h1
    ·exact hi
    ·exact h.ids x (List.mem_of_mem_drop h1)
  ·rcases List.mem_append.1 hx with h1 | h1
   ·exact h.kept x (List.mem_of_mem_take h1)
   ·rcases List.mem_cons.1 h1 with rfl | h1
    ·exact fun hc => hne hc.2
    ·exact h.kept x (List.mem_of_mem_drop h1)
  ·rcases List.mem_append.1 hx with h1 | h1
   ·exact h.keys x (List.mem_of_mem_take h1)
   ·rcases List.mem_cons.1 h1 with rfl | h1
    ·simp only; omega
    ·exact h.keys x (List.mem_of_mem_drop h1)
  ·have := pos_le id L
   simp; omega
theorem hit_false {id : List UInt8} {L : Ring} (h : ∀ (j : Nat) (hj : j < L.length), (L[j]).id ≠ id) : hit id L = false := by
 cases hh : hit id L with
 | false => rfl
 | true => obtain ⟨hl, e⟩ := hit_iff.1 hh; exact absurd e (h _ hl)
def keptB (e : Ent) : Bool := decide (0 < e.holds) || !decide (e.key = [])
theorem keptB_iff (e : Ent) : keptB e = false ↔ (e.holds = 0 ∧ e.key = []) := by
 unfold keptB
 by_cases h1 : e.key = [] <;> by_cases h2 : e.holds = 0 <;> simp [h1, h2] <;> omega
theorem filter_set {L : Ring} {i : Nat} {e : Ent} (h : Good L) (hi : i < L.length) : (L.set i e).filter keptB = drop i e L := by
 have hall : ∀ x ∈ L, keptB x = true := fun x hx => by
  cases hk : keptB x with
  | true => rfl
  | false => exact absurd ((keptB_iff x).1 hk) (h.kept x hx)
 unfold drop
 rw [List.set_eq_take_append_cons_drop, if_pos hi, List.filter_append, List.filter_cons]
 have h1 : (L.take i).filter keptB = L.take i := List.filter_eq_self.2 fun x hx => hall x (List.mem_of_mem_take hx)
 have h2 : (L.drop (i + 1)).filter keptB = L.drop (i + 1) := List.filter_eq_self.2 fun x hx => hall x (List.mem_of_mem_drop hx)
 rw [h1, h2]
 cases hk : keptB e with
 | false => rw [if_pos ((keptB_iff e).1 hk), List.eraseIdx_eq_take_drop_succ]; simp
 | true =>
  have hn : ¬ (e.holds = 0 ∧ e.key = []) := fun c => by rw [(keptB_iff e).2 c] at hk; cases hk
  rw [if_neg hn, if_pos rfl]
theorem stat_one {id : List UInt8} {L : Ring} : stat id L = 1 ↔ hit id L = true ∧ (ent id L).key ≠ [] := by
 unfold stat
 cases hit id L with
 | false => simp
 | true => by_cases h : (ent id L).key = [] <;> simp [h]
theorem stat_zero {id : List UInt8} {L : Ring} : stat id L = 0 ↔ hit id L = false := by
 unfold stat
 cases hit id L with
 | false => simp
 | true => by_cases h : (ent id L).key = [] <;> simp [h]
theorem good_remove {id : List UInt8} {L : Ring} (h : Good L) (hh : hit id L = true) : Good (remove id L) := by
 obtain ⟨hl, e1, e2⟩ := ent_eq hh
 exact good_drop h (fun _ => by simp only [e1]) (by simp)
theorem ent_mem {id : List UInt8} {L : Ring} (hh : hit id L = true) : ent id L ∈ L := by
 obtain ⟨hl, e1, e2⟩ := ent_eq hh
 rw [e1]; exact List.getElem_mem hl
theorem good_hold {id : List UInt8} {L : Ring} (h : Good L) (hh : hit id L = true) : Good (hold id L) := by
 obtain ⟨hl, e1, e2⟩ := ent_eq hh
 exact good_set h (fun _ => by simp only [e1]) (by simp) (h.keys (ent id L) (ent_mem hh))
theorem good_release {id : List UInt8} {L : Ring} (h : Good L) (hh : hit id L = true) : Good (release id L) := by
 obtain ⟨hl, e1, e2⟩ := ent_eq hh
 exact good_drop h (fun _ => by simp only [e1]) (h.keys (ent id L) (ent_mem hh))
end Go.Kr
