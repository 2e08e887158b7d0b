/- Cut, IndexByte, Itoa, Hex, words of texts: walked. -/
import Derived.Test.YtgobmphkakmdmaaDoorUc
import Derived.Test.YtgobmphkakmdmaaDoorUi
import Derived.Test.YtgobmphkakmdmaaDoorUa
import Derived.Lib.AppendIntMem
set_option linter.unusedVariables false
--@def ST := 15
namespace Go.Kx
open Go
section
variable {P : Program} {n : Nat} {env : Env} {w : World} {dst : Option Tmp} {ty : TypeId} {pos : String} {aft : Array Edge} {g : Option (Nat × Bool)}
theorem x_andB {x y : Operand} {T T' : TypeId} {a b : UInt8} (hx : ev n env x = .int .u8 (ub a)) (hy : ev n env y = .int .u8 (ub b)) :
    Run P n env ⟨dst, .binOp .and T x y T', ty, pos, aft, g⟩ w (.ok (.value (.int .u8 (ub (a &&& b)))) w) := by
  have e : IntKind.u8.wrap ((a.toBitVec &&& b.toBitVec).toNat : Int) = ub (a &&& b) := by rw [← UInt8.toBitVec_and]; exact wrap_ub _
  unfold Run
  simp only [execOp, hx, hy]
  simp only [eqGuard, binOp, Op.intBits, IntKind.bits, ofInt_ub]
  simp
  exact e
theorem x_shr4 {x y : Operand} {T T' : TypeId} {a : UInt8} {k : IntKind} (hx : ev n env x = .int .u8 (ub a)) (hy : ev n env y = .int k 4) :
    Run P n env ⟨dst, .binOp .shr T x y T', ty, pos, aft, g⟩ w (.ok (.value (.int .u8 (ub (a >>> 4)))) w) := by
  have hf : ∀ q : _root_.Fin 256, ((UInt8.ofNat q.val >>> 4).toNat : Int) = ((UInt8.ofNat q.val).toNat : Int).fdiv 16 := by decide +kernel
  have e : (ub a).fdiv 16 = ub (a >>> 4) := by
    have := hf ⟨a.toNat, a.toNat_lt⟩
    simp only [UInt8.ofNat_toNat] at this
    exact this.symm
  unfold Run
  simp only [execOp, hx, hy]
  simp [eqGuard, binOp, Op.shift, IntKind.bits, e]
end
end Go.Kx
namespace Go.Proofs.YtgobmphkakmdmaaDoor
open Go Go.Kx Go.Sc
instance : TX Tryd.prog 41 Extern.BytealgIndexByte.indexByte := ⟨_, Tryd.func41, by kernel_rfl, by kernel_rfl, by kernel_rfl, by kernel_rfl⟩
theorem run_ib (l : List UInt8) (c : UInt8) (w : World) : (Extern.BytealgIndexByte.indexByte #[strV l, .int .u8 (ub c)]).run Tryd.prog w = .ok (.int .i64 (Lib.indexByte l c)) w := by
  have h := Lib.run_indexByteString (P := Tryd.prog) ⟨l.toArray⟩ (ub c) w
  rw [show (ub c).toNat.toUInt8 = c by simp [ub]] at h
  exact h
set_option maxRecDepth 100000 in
set_option maxHeartbeats 4000000 in
theorem ib28_calls (l : List UInt8) (c : UInt8) (w : World) :
    Calls Tryd.prog 28 #[strV l, .int .u8 (ub c)] w fun e w' => e = .returned (.int .i64 (Lib.indexByte l c)) ∧ w = w' := by
  refine calls_at (n := 8) Tryd.func28 rfl rfl (by simp) ?_
  (refine At_seq ?_; refine At_region ?_; refine s_as ?_; refine AtR_nil ?_; refine At_seq ?_; refine At_region ?_; refine s_mv ?_; refine s_mv ?_)
  refine s_val (x_callX rfl (run_ib l c _)) ?_
  (refine s_as ?_; refine AtR_nil ?_)
  refine At_ret1 Tryd.func28 rfl (by conv => lhs; whnf) ?_
  exact ⟨rfl, rfl⟩
set_option maxRecDepth 100000 in
set_option maxHeartbeats 4000000 in
theorem ib_calls (l : List UInt8) (c : UInt8) (w : World) :
    Calls Tryd.prog 19 #[strV l, .int .u8 (ub c)] w fun e w' => e = .returned (.int .i64 (Lib.indexByte l c)) ∧ w = w' := by
  refine calls_at (n := 8) Tryd.func19 rfl rfl (by simp) ?_
  (refine At_seq ?_; refine At_region ?_; refine s_as ?_; refine AtR_nil ?_; refine At_seq ?_; refine At_region ?_; refine s_mv ?_; refine s_mv ?_)
  refine s_call x_call (ib28_calls l c _) ?_
  rintro _ _ ⟨rfl, rfl⟩
  refine ⟨_, rfl, ?_⟩
  (refine s_as ?_; refine AtR_nil ?_)
  refine At_ret1 Tryd.func19 rfl (by conv => lhs; whnf) ?_
  exact ⟨rfl, rfl⟩
set_option maxRecDepth 100000 in
set_option maxHeartbeats 4000000 in
theorem ix_calls (l : List UInt8) (c : UInt8) (w : World) :
    Calls Tryd.prog 37 #[strV l, strV [c]] w fun e w' => e = .returned (.int .i64 (Lib.indexByte l c)) ∧ w = w' := by
  refine calls_at (n := 143) Tryd.func37 rfl rfl (by simp) ?_
  have h1 : [c].length = 1 := rfl
  (refine At_seq ?_; refine At_region ?_; refine s_as ?_; refine AtR_nil ?_; refine At_seq ?_; refine At_region ?_; refine s_mv ?_; refine s_lns ?_; refine s_as ?_; refine AtR_nil ?_; refine At_seq ?_; refine At_block ?_; refine At_seq ?_; refine At_region ?_; refine s_mv ?_; refine s_eql ?_; refine s_mv ?_; refine s_yes rfl rfl rfl rfl ?_; refine g_mv ?_; refine s_yes rfl rfl rfl rfl ?_; refine g_mv ?_)
  refine s_yes rfl rfl rfl rfl ?_
  by_cases h : [c] = l
  · refine g_bool (x_eql_str rfl rfl) (decide_eq_true h) ?_
    (refine s_pf ?_; refine s_as ?_; refine AtR_nil ?_; refine At_cond_t rfl ?_; refine At_seq ?_; refine At_region ?_; refine s_as ?_; refine AtR_nil ?_)
    refine At_ret1 Tryd.func37 rfl (by conv => lhs; whnf) ?_
    subst h
    refine ⟨?_, rfl⟩
    simp [Lib.indexByte]
  · refine g_bool (x_eql_str rfl rfl) (decide_eq_false h) ?_
    (refine s_pf ?_; refine s_as ?_; refine AtR_nil ?_; refine At_cond_f rfl ?_; refine At_seq ?_; refine At_region ?_; refine s_mv ?_; refine s_eql ?_; refine s_as ?_; refine AtR_nil ?_; refine At_cond_t rfl ?_; refine At_seq ?_; refine At_region ?_; refine s_mv ?_; refine s_mv ?_)
    refine s_val (x_index_str (i := 0) (l := [c]) rfl rfl (by simp)) ?_
    refine s_call x_call (ib28_calls l c _) ?_
    rintro _ _ ⟨rfl, rfl⟩
    refine ⟨_, rfl, ?_⟩
    (refine s_as ?_; refine AtR_nil ?_)
    refine At_ret1 Tryd.func37 rfl (by conv => lhs; whnf) ?_
    exact ⟨rfl, rfl⟩
/-- What is ahead of an octet, what behind it, is it there. -/
def cutP (l : List UInt8) (c : UInt8) : List UInt8 × List UInt8 × Bool := if 0 ≤ Lib.indexByte l c then (l.take (Lib.indexByte l c).toNat, l.drop ((Lib.indexByte l c).toNat + 1), true) else (l, [], false)
theorem ib_lt : ∀ (l : List UInt8) (c : UInt8), Lib.indexByte l c < l.length
  | [], c => by simp [Lib.indexByte]
  | b :: l, c => by
    have := ib_lt l c
    simp only [Lib.indexByte, List.length_cons]
    split
    · omega
    · split
      · omega
      · omega
set_option maxRecDepth 100000 in
set_option maxHeartbeats 4000000 in
theorem cut24_calls (l : List UInt8) (c : UInt8) (w : World) (hl : l.length ≤ 9223372036854775806) :
    Calls Tryd.prog 24 #[strV l, strV [c]] w fun e w' => e = .returned (.tuple #[strV (cutP l c).1, strV (cutP l c).2.1, .bool (cutP l c).2.2]) ∧ Kp No w w' := by
  refine calls_at (n := 23) Tryd.func24 rfl rfl (by simp) ?_
  (refine At_seq ?_; refine At_region ?_; refine s_as ?_; refine s_as ?_; refine s_as ?_; refine AtR_nil ?_; refine At_seq ?_; refine At_seq ?_; refine At_region ?_; refine s_mv ?_; refine s_mv ?_)
  refine s_call x_call (ix_calls l c _) ?_
  rintro _ _ ⟨rfl, rfl⟩
  refine ⟨_, rfl, ?_⟩
  have hlt := ib_lt l c
  unfold cutP
  by_cases h0 : 0 ≤ Lib.indexByte l c
  · rw [if_pos h0]
    obtain ⟨i, hi⟩ := Int.eq_ofNat_of_zero_le h0
    rw [hi] at hlt ⊢
    rw [Int.toNat_natCast]
    (refine s_as ?_; refine AtR_nil ?_; refine At_seq ?_; refine At_region ?_; refine s_mv ?_; refine s_geq ?_; refine AtR_nil ?_; refine At_cond_t rfl ?_; refine At_seq ?_)
    have kd := Kp.drew (S := No) (w := w)
    refine At_draw (fun _ => True) rfl ?_
    have hS : True := trivial
    have h1 : [c].length = 1 := rfl
    (apply AtH_take 0 rfl (by decide +kernel) (by exact rfl); (focus (intro wx hx; skip; exact x_move (by conv => lhs; whnf))); (focus (exact hS)))
    (apply AtH_take 1 rfl (by decide +kernel) (by exact rfl); (focus (intro wx hx; skip; exact x_move (by conv => lhs; whnf))); (focus (exact hS)))
    (apply AtH_take 3 rfl (by decide +kernel) (by exact rfl); (focus (intro wx hx; skip; exact x_move (by conv => lhs; whnf))); (focus (exact hS)))
    (apply AtH_take 4 rfl (by decide +kernel) (by exact rfl); (focus (intro wx hx; skip; exact x_move (by conv => lhs; whnf))); (focus (exact hS)))
    (apply AtH_take 5 rfl (by decide +kernel) (by exact rfl); (focus (intro wx hx; skip; exact x_move (by conv => lhs; whnf))); (focus (exact hS)))
    (apply AtH_take 6 rfl (by decide +kernel) (by exact rfl); (focus (intro wx hx; skip; exact x_len_str rfl)); (focus (exact hS)))
    (apply AtH_take 7 rfl (by decide +kernel) (by exact rfl); (focus (intro wx hx; skip; exact x_add64 rfl rfl (by omega) (by omega))); (focus (exact hS)))
    -- ready now: 2 slice 9 t13 none (some t14) none, 8 slice 9 t16 (some t20) none none
    refine AtH_take 2 rfl (by decide +kernel) (by exact rfl) (fun wx hx => x_slice_str_h rfl rfl (by omega)) hS ?_
    refine AtH_take 8 rfl (by decide +kernel) (by exact rfl) (fun wx hx => x_slice_str_l (a := i + 1) rfl rfl (by omega)) hS ?_
    (apply AtH_take 9 rfl (by decide +kernel) (by exact rfl); (focus (intro wx hx; skip; exact x_assign (by conv => lhs; whnf))); (focus (exact hS)))
    (apply AtH_take 10 rfl (by decide +kernel) (by exact rfl); (focus (intro wx hx; skip; exact x_assign (by conv => lhs; whnf))); (focus (exact hS)))
    (apply AtH_take 11 rfl (by decide +kernel) (by exact rfl); (focus (intro wx hx; skip; exact x_assign (by conv => lhs; whnf))); (focus (exact hS)))
    refine AtH_done (by decide +kernel) ?_
    skip
    refine At_ret3 Tryd.func24 rfl rfl rfl rfl ?_
    exact ⟨rfl, kd⟩
  · rw [if_neg h0]
    (refine s_as ?_; refine AtR_nil ?_; refine At_seq ?_; refine At_region ?_; refine s_mv ?_; refine s_geq ?_; refine AtR_nil ?_; refine At_cond_f rfl ?_; refine At_skip ?_; refine At_seq ?_; refine At_region ?_; refine s_mv ?_; refine s_as ?_; refine s_as ?_; refine s_as ?_; refine AtR_nil ?_)
    refine At_ret3 Tryd.func24 rfl rfl rfl rfl ?_
    exact ⟨rfl, .refl _ _⟩
set_option maxRecDepth 100000 in
set_option maxHeartbeats 4000000 in
theorem cut_calls (l : List UInt8) (c : UInt8) (w : World) (hl : l.length ≤ 9223372036854775806) :
    Calls Tryd.prog 17 #[strV l, strV [c]] w fun e w' => e = .returned (.tuple #[strV (cutP l c).1, strV (cutP l c).2.1, .bool (cutP l c).2.2]) ∧ Kp No w w' := by
  refine calls_at (n := 13) Tryd.func17 rfl rfl (by simp) ?_
  (refine At_seq ?_; refine At_region ?_; refine s_as ?_; refine s_as ?_; refine s_as ?_; refine AtR_nil ?_; refine At_seq ?_; refine At_region ?_; refine s_mv ?_; refine s_mv ?_)
  refine s_call x_call (cut24_calls l c _ hl) ?_
  rintro _ w1 ⟨rfl, k1⟩
  refine ⟨_, rfl, ?_⟩
  (refine s_ex ?_; refine s_ex ?_; refine s_ex ?_; refine s_as ?_; refine s_as ?_; refine s_as ?_; refine AtR_nil ?_)
  refine At_ret3 Tryd.func17 rfl rfl rfl rfl ?_
  exact ⟨rfl, k1⟩
/-- The laid variables that are read. -/
def Tab (w : World) : Prop := ∃ fz, Blk w 2 114 fz (ints .u64 Lib.pow10Tab)
theorem Tab.kp {S : Nat → Prop} {w w' : World} (h : Tab w) (hk : Kp S w w') (hS : ¬ S 2) : Tab w' := by
  obtain ⟨fz, h⟩ := h
  exact ⟨fz, h.kp hk hS⟩
theorem Tab.kpn {w w' : World} (h : Tab w) (hk : Kp No w w') : Tab w' := h.kp hk fun h => h
set_option maxRecDepth 100000 in
theorem itoa_calls (n : Int) (w : World) (hn : -9223372036854775808 ≤ n ∧ n ≤ 9223372036854775807) (hT : Tab w) :
    Calls Tryd.prog 27 #[.int .i64 n] w fun e w' => e = .returned (strV (Lib.itoa n)) ∧ Kp No w w' := by
  have ht : Lib.TabIs Tryd.prog w "internal/strconv.uint64pow10" .u64 Lib.pow10Tab := by
    obtain ⟨fz, h⟩ := hT
    have hg : Tryd.prog.globalNamed "internal/strconv.uint64pow10" = some 2 := by kernel_rfl
    unfold Lib.TabIs World.var?
    unfold Blk at h
    rw [hg]
    simp only [Option.bind_some, h]
    rfl
  refine (Tryd.strconv_Itoa n hn.1 hn.2 w ht).mono ?_
  rintro _ w' ⟨rfl, k, os, rfl⟩
  obtain ⟨a1, a2, a3, a4, a5⟩ := Lib.below_grow w.heap.size w (Nat.le_refl _) k os
  exact ⟨rfl, ⟨a1, a2, a3, a4, fun j _ hj => a5 j hj⟩⟩
end Go.Proofs.YtgobmphkakmdmaaDoor
