/- SHA-512: a word turned, on both sides. | SHA-512: the words of a block; the word of a round. | SHA-512: the word of a round, in the place of the one sixteen ahead. | SHA-512: a block taken. -/
import Derived.Test.YtfngacepjcdlnaaDoorQKb
import Derived.Test.YtfngacepjcdlnaaDoorQKt
set_option linter.unusedVariables false
namespace Go.Proofs.YtfngacepjcdlnaaDoor
open Go Go.Kx
def rot (x : BitVec 64) (m : Nat) : BitVec 64 := x >>> m ||| x <<< (64 - m)
theorem rotl_calls (x : BitVec 64) (m : Nat) (w : World) (h0 : 0 < m) (h : m < 64) :
  Calls Tryd.prog 151 #[.int .u64 (uw x), .int .i64 (0 - (m : Int))] w fun e w' => e = .returned (.int .u64 (uw (rot x m))) ∧ w = w' := by
 refine calls_at (n := 17) Tryd.func151 rfl rfl (by simp) ?_
 (refine At_seq (At_region ?_); refine s_as ?_; refine AtR_nil (At_seq (At_region ?_)); refine s_mv ?_; refine s_cv ?_)
 have e1 : IntKind.u64.wrap (0 - (m : Int)) = uw (BitVec.ofNat 64 (18446744073709551616 - m)) := by
  rw [wrap_u64]; unfold uw; rw [BitVec.toNat_ofNat]; omega
 have e2 : uw (BitVec.ofNat 64 (18446744073709551616 - m) &&& 63) = ((64 - m : Nat) : Int) := by
  unfold uw
  rw [BitVec.toNat_and, BitVec.toNat_ofNat]
  have := Nat.and_two_pow_sub_one_eq_mod ((18446744073709551616 - m) % 2 ^ 64) 6
  simp only [Nat.reducePow, Nat.reduceSub] at this
  show (((18446744073709551616 - m) % 2 ^ 64 &&& 63 : Nat) : Int) = _
  rw [show (2 : Nat) ^ 64 = 18446744073709551616 from rfl, this]
  omega
 rw [e1]
 refine s_val (x_andW (b := 63) rfl rfl) ?_
 rw [e2]
 (refine s_as ?_; refine AtR_nil (At_seq (At_region ?_)); refine s_mv ?_; refine s_mv ?_; refine s_hl ?_; refine s_mv ?_; refine s_mv ?_)
 refine s_val (x_sub rfl rfl) ?_
 rw [show IntKind.u64.wrap (64 - ((64 - m : Nat) : Int)) = ((m : Nat) : Int) by rw [wrap_u64]; omega]
 (refine s_hr ?_; refine s_ow ?_; refine s_as ?_; refine AtR_nil ?_)
 refine At_ret1 Tryd.func151 rfl (by conv => lhs; whnf) ?_
 refine ⟨?_, rfl⟩
 rw [Int.toNat_natCast, Int.toNat_natCast, rot, BitVec.or_comm]
def great (x : BitVec 64) (a b c : Nat) : BitVec 64 := rot x a ^^^ rot x b ^^^ rot x c
theorem great_calls (x : BitVec 64) (a b c : Nat) (w : World) (ha : 0 < a) (ha' : a < 64) (hb : 0 < b) (hb' : b < 64) (hc : 0 < c) (hc' : c < 64) :
  Calls Tryd.prog 147 #[.int .u64 (uw x), .int .i64 (a : Int), .int .i64 (b : Int), .int .i64 (c : Int)] w fun e w' => e = .returned (.int .u64 (uw (great x a b c))) ∧ w = w' := by
 refine calls_at (n := 23) Tryd.func147 rfl rfl (by simp) ?_
 (refine At_seq (At_region ?_); refine s_as ?_; refine AtR_nil (At_seq (At_region ?_)); refine s_mv ?_; refine s_mv ?_; refine s_ng ?_)
 refine s_call x_call (rotl_calls x a _ ha ha') ?_
 rintro _ _ ⟨rfl, rfl⟩
 refine ⟨_, rfl, ?_⟩
 (refine s_mv ?_; refine s_mv ?_; refine s_ng ?_)
 refine s_call x_call (rotl_calls x b _ hb hb') ?_
 rintro _ _ ⟨rfl, rfl⟩
 refine ⟨_, rfl, ?_⟩
 (refine s_xw ?_; refine s_mv ?_; refine s_mv ?_; refine s_ng ?_)
 refine s_call x_call (rotl_calls x c _ hc hc') ?_
 rintro _ _ ⟨rfl, rfl⟩
 refine ⟨_, rfl, ?_⟩
 (refine s_xw ?_; refine s_as ?_; refine AtR_nil ?_)
 refine At_ret1 Tryd.func147 rfl (by conv => lhs; whnf) ?_
 exact ⟨rfl, rfl⟩
def small (x : BitVec 64) (a b c : Nat) : BitVec 64 := rot x a ^^^ rot x b ^^^ x >>> c
theorem small_calls (x : BitVec 64) (a b c : Nat) (w : World) (ha : 0 < a) (ha' : a < 64) (hb : 0 < b) (hb' : b < 64) :
  Calls Tryd.prog 152 #[.int .u64 (uw x), .int .i64 (a : Int), .int .i64 (b : Int), .int .i64 (c : Int)] w fun e w' => e = .returned (.int .u64 (uw (small x a b c))) ∧ Kp No w w' := by
 refine calls_at (n := 22) Tryd.func152 rfl rfl (by simp) ?_
 (refine At_seq (At_region ?_); refine s_as ?_; refine AtR_nil (At_seq ?_))
 refine At_draw (fun _ => True) rfl ?_
 have hS : True := trivial
 (apply AtH_take 0 rfl (by decide +kernel) (by first | exact rfl | exact ⟨_, _, rfl, by decide, rfl, rfl⟩); (focus (intro wx hx; skip; first | exact x_len_str rfl | exact x_xorW rfl rfl | exact x_andW rfl rfl | exact x_orW rfl rfl | exact x_addW rfl rfl | exact x_load_bw rfl (by assumption) (by omega) | exact x_load_sw rfl (by assumption) (by omega) | exact x_load_bb rfl (by assumption) (by omega) | exact x_load_sb rfl (by assumption) (by omega) | exact x_indexAddrA rfl rfl (by omega) | exact x_indexAddrI rfl rfl (by omega) (by omega) | exact x_quoI rfl rfl (by omega) (by omega) (by omega) | exact x_remI rfl rfl (by omega) (by omega) | exact x_mul64 rfl rfl (by omega) (by omega) | exact x_shlW rfl rfl (by omega) | exact x_shrW rfl rfl (by omega) | exact x_conv_bw rfl | exact x_conv_wb rfl | exact x_neg64 rfl (by omega) (by omega) | exact x_xorB rfl rfl | exact x_slice_arr rfl | exact x_slice_arr_l rfl rfl (by omega) | exact x_slice_arr_h rfl rfl (by omega) | exact x_notW rfl | exact x_move (by conv => lhs; whnf) | exact x_assign (by conv => lhs; whnf) | exact x_pick_t rfl (by conv => lhs; whnf) | exact x_pick_f rfl (by conv => lhs; whnf) | exact x_not rfl | exact x_extract rfl rfl | exact x_nilCheck rfl | exact x_load_ints rfl (by assumption) (by omega) | exact x_load_bints rfl (by assumption) (by omega) | exact x_load_flw rfl (by assumption) (by assumption) rfl | exact x_load1 rfl (by assumption) rfl | exact x_load_fl rfl (by assumption) rfl (by assumption) rfl | exact x_load_fl1 rfl (by assumption) rfl (by assumption) | exact x_indexAddrN1 rfl rfl (by omega) | exact x_slice_hN rfl (by assumption) rfl (by omega) | exact x_indexAddr1 rfl rfl (by omega) (by omega) | exact x_add64 rfl rfl (by omega) (by omega) | exact x_sub64 rfl rfl (by omega) (by omega) | exact x_len_slice rfl | exact x_len_string rfl | exact x_fieldAddrN rfl (by first | exact Nat.zero_add _ | exact Nat.add_zero _ | (simp only [Nat.reduceAdd] <;> rfl) | exact rfl))); (focus (exact hS)))
 (apply AtH_take 1 rfl (by decide +kernel) (by first | exact rfl | exact ⟨_, _, rfl, by decide, rfl, rfl⟩); (focus (intro wx hx; skip; first | exact x_len_str rfl | exact x_xorW rfl rfl | exact x_andW rfl rfl | exact x_orW rfl rfl | exact x_addW rfl rfl | exact x_load_bw rfl (by assumption) (by omega) | exact x_load_sw rfl (by assumption) (by omega) | exact x_load_bb rfl (by assumption) (by omega) | exact x_load_sb rfl (by assumption) (by omega) | exact x_indexAddrA rfl rfl (by omega) | exact x_indexAddrI rfl rfl (by omega) (by omega) | exact x_quoI rfl rfl (by omega) (by omega) (by omega) | exact x_remI rfl rfl (by omega) (by omega) | exact x_mul64 rfl rfl (by omega) (by omega) | exact x_shlW rfl rfl (by omega) | exact x_shrW rfl rfl (by omega) | exact x_conv_bw rfl | exact x_conv_wb rfl | exact x_neg64 rfl (by omega) (by omega) | exact x_xorB rfl rfl | exact x_slice_arr rfl | exact x_slice_arr_l rfl rfl (by omega) | exact x_slice_arr_h rfl rfl (by omega) | exact x_notW rfl | exact x_move (by conv => lhs; whnf) | exact x_assign (by conv => lhs; whnf) | exact x_pick_t rfl (by conv => lhs; whnf) | exact x_pick_f rfl (by conv => lhs; whnf) | exact x_not rfl | exact x_extract rfl rfl | exact x_nilCheck rfl | exact x_load_ints rfl (by assumption) (by omega) | exact x_load_bints rfl (by assumption) (by omega) | exact x_load_flw rfl (by assumption) (by assumption) rfl | exact x_load1 rfl (by assumption) rfl | exact x_load_fl rfl (by assumption) rfl (by assumption) rfl | exact x_load_fl1 rfl (by assumption) rfl (by assumption) | exact x_indexAddrN1 rfl rfl (by omega) | exact x_slice_hN rfl (by assumption) rfl (by omega) | exact x_indexAddr1 rfl rfl (by omega) (by omega) | exact x_add64 rfl rfl (by omega) (by omega) | exact x_sub64 rfl rfl (by omega) (by omega) | exact x_len_slice rfl | exact x_len_string rfl | exact x_fieldAddrN rfl (by first | exact Nat.zero_add _ | exact Nat.add_zero _ | (simp only [Nat.reduceAdd] <;> rfl) | exact rfl))); (focus (exact hS)))
 (apply AtH_take 2 rfl (by decide +kernel) (by first | exact rfl | exact ⟨_, _, rfl, by decide, rfl, rfl⟩); (focus (intro wx hx; skip; first | exact x_len_str rfl | exact x_xorW rfl rfl | exact x_andW rfl rfl | exact x_orW rfl rfl | exact x_addW rfl rfl | exact x_load_bw rfl (by assumption) (by omega) | exact x_load_sw rfl (by assumption) (by omega) | exact x_load_bb rfl (by assumption) (by omega) | exact x_load_sb rfl (by assumption) (by omega) | exact x_indexAddrA rfl rfl (by omega) | exact x_indexAddrI rfl rfl (by omega) (by omega) | exact x_quoI rfl rfl (by omega) (by omega) (by omega) | exact x_remI rfl rfl (by omega) (by omega) | exact x_mul64 rfl rfl (by omega) (by omega) | exact x_shlW rfl rfl (by omega) | exact x_shrW rfl rfl (by omega) | exact x_conv_bw rfl | exact x_conv_wb rfl | exact x_neg64 rfl (by omega) (by omega) | exact x_xorB rfl rfl | exact x_slice_arr rfl | exact x_slice_arr_l rfl rfl (by omega) | exact x_slice_arr_h rfl rfl (by omega) | exact x_notW rfl | exact x_move (by conv => lhs; whnf) | exact x_assign (by conv => lhs; whnf) | exact x_pick_t rfl (by conv => lhs; whnf) | exact x_pick_f rfl (by conv => lhs; whnf) | exact x_not rfl | exact x_extract rfl rfl | exact x_nilCheck rfl | exact x_load_ints rfl (by assumption) (by omega) | exact x_load_bints rfl (by assumption) (by omega) | exact x_load_flw rfl (by assumption) (by assumption) rfl | exact x_load1 rfl (by assumption) rfl | exact x_load_fl rfl (by assumption) rfl (by assumption) rfl | exact x_load_fl1 rfl (by assumption) rfl (by assumption) | exact x_indexAddrN1 rfl rfl (by omega) | exact x_slice_hN rfl (by assumption) rfl (by omega) | exact x_indexAddr1 rfl rfl (by omega) (by omega) | exact x_add64 rfl rfl (by omega) (by omega) | exact x_sub64 rfl rfl (by omega) (by omega) | exact x_len_slice rfl | exact x_len_string rfl | exact x_fieldAddrN rfl (by first | exact Nat.zero_add _ | exact Nat.add_zero _ | (simp only [Nat.reduceAdd] <;> rfl) | exact rfl))); (focus (exact hS)))
 (apply AtH_take 4 rfl (by decide +kernel) (by first | exact rfl | exact ⟨_, _, rfl, by decide, rfl, rfl⟩); (focus (intro wx hx; skip; first | exact x_len_str rfl | exact x_xorW rfl rfl | exact x_andW rfl rfl | exact x_orW rfl rfl | exact x_addW rfl rfl | exact x_load_bw rfl (by assumption) (by omega) | exact x_load_sw rfl (by assumption) (by omega) | exact x_load_bb rfl (by assumption) (by omega) | exact x_load_sb rfl (by assumption) (by omega) | exact x_indexAddrA rfl rfl (by omega) | exact x_indexAddrI rfl rfl (by omega) (by omega) | exact x_quoI rfl rfl (by omega) (by omega) (by omega) | exact x_remI rfl rfl (by omega) (by omega) | exact x_mul64 rfl rfl (by omega) (by omega) | exact x_shlW rfl rfl (by omega) | exact x_shrW rfl rfl (by omega) | exact x_conv_bw rfl | exact x_conv_wb rfl | exact x_neg64 rfl (by omega) (by omega) | exact x_xorB rfl rfl | exact x_slice_arr rfl | exact x_slice_arr_l rfl rfl (by omega) | exact x_slice_arr_h rfl rfl (by omega) | exact x_notW rfl | exact x_move (by conv => lhs; whnf) | exact x_assign (by conv => lhs; whnf) | exact x_pick_t rfl (by conv => lhs; whnf) | exact x_pick_f rfl (by conv => lhs; whnf) | exact x_not rfl | exact x_extract rfl rfl | exact x_nilCheck rfl | exact x_load_ints rfl (by assumption) (by omega) | exact x_load_bints rfl (by assumption) (by omega) | exact x_load_flw rfl (by assumption) (by assumption) rfl | exact x_load1 rfl (by assumption) rfl | exact x_load_fl rfl (by assumption) rfl (by assumption) rfl | exact x_load_fl1 rfl (by assumption) rfl (by assumption) | exact x_indexAddrN1 rfl rfl (by omega) | exact x_slice_hN rfl (by assumption) rfl (by omega) | exact x_indexAddr1 rfl rfl (by omega) (by omega) | exact x_add64 rfl rfl (by omega) (by omega) | exact x_sub64 rfl rfl (by omega) (by omega) | exact x_len_slice rfl | exact x_len_string rfl | exact x_fieldAddrN rfl (by first | exact Nat.zero_add _ | exact Nat.add_zero _ | (simp only [Nat.reduceAdd] <;> rfl) | exact rfl))); (focus (exact hS)))
 (apply AtH_take 5 rfl (by decide +kernel) (by first | exact rfl | exact ⟨_, _, rfl, by decide, rfl, rfl⟩); (focus (intro wx hx; skip; first | exact x_len_str rfl | exact x_xorW rfl rfl | exact x_andW rfl rfl | exact x_orW rfl rfl | exact x_addW rfl rfl | exact x_load_bw rfl (by assumption) (by omega) | exact x_load_sw rfl (by assumption) (by omega) | exact x_load_bb rfl (by assumption) (by omega) | exact x_load_sb rfl (by assumption) (by omega) | exact x_indexAddrA rfl rfl (by omega) | exact x_indexAddrI rfl rfl (by omega) (by omega) | exact x_quoI rfl rfl (by omega) (by omega) (by omega) | exact x_remI rfl rfl (by omega) (by omega) | exact x_mul64 rfl rfl (by omega) (by omega) | exact x_shlW rfl rfl (by omega) | exact x_shrW rfl rfl (by omega) | exact x_conv_bw rfl | exact x_conv_wb rfl | exact x_neg64 rfl (by omega) (by omega) | exact x_xorB rfl rfl | exact x_slice_arr rfl | exact x_slice_arr_l rfl rfl (by omega) | exact x_slice_arr_h rfl rfl (by omega) | exact x_notW rfl | exact x_move (by conv => lhs; whnf) | exact x_assign (by conv => lhs; whnf) | exact x_pick_t rfl (by conv => lhs; whnf) | exact x_pick_f rfl (by conv => lhs; whnf) | exact x_not rfl | exact x_extract rfl rfl | exact x_nilCheck rfl | exact x_load_ints rfl (by assumption) (by omega) | exact x_load_bints rfl (by assumption) (by omega) | exact x_load_flw rfl (by assumption) (by assumption) rfl | exact x_load1 rfl (by assumption) rfl | exact x_load_fl rfl (by assumption) rfl (by assumption) rfl | exact x_load_fl1 rfl (by assumption) rfl (by assumption) | exact x_indexAddrN1 rfl rfl (by omega) | exact x_slice_hN rfl (by assumption) rfl (by omega) | exact x_indexAddr1 rfl rfl (by omega) (by omega) | exact x_add64 rfl rfl (by omega) (by omega) | exact x_sub64 rfl rfl (by omega) (by omega) | exact x_len_slice rfl | exact x_len_string rfl | exact x_fieldAddrN rfl (by first | exact Nat.zero_add _ | exact Nat.add_zero _ | (simp only [Nat.reduceAdd] <;> rfl) | exact rfl))); (focus (exact hS)))
 (apply AtH_take 6 rfl (by decide +kernel) (by first | exact rfl | exact ⟨_, _, rfl, by decide, rfl, rfl⟩); (focus (intro wx hx; skip; first | exact x_len_str rfl | exact x_xorW rfl rfl | exact x_andW rfl rfl | exact x_orW rfl rfl | exact x_addW rfl rfl | exact x_load_bw rfl (by assumption) (by omega) | exact x_load_sw rfl (by assumption) (by omega) | exact x_load_bb rfl (by assumption) (by omega) | exact x_load_sb rfl (by assumption) (by omega) | exact x_indexAddrA rfl rfl (by omega) | exact x_indexAddrI rfl rfl (by omega) (by omega) | exact x_quoI rfl rfl (by omega) (by omega) (by omega) | exact x_remI rfl rfl (by omega) (by omega) | exact x_mul64 rfl rfl (by omega) (by omega) | exact x_shlW rfl rfl (by omega) | exact x_shrW rfl rfl (by omega) | exact x_conv_bw rfl | exact x_conv_wb rfl | exact x_neg64 rfl (by omega) (by omega) | exact x_xorB rfl rfl | exact x_slice_arr rfl | exact x_slice_arr_l rfl rfl (by omega) | exact x_slice_arr_h rfl rfl (by omega) | exact x_notW rfl | exact x_move (by conv => lhs; whnf) | exact x_assign (by conv => lhs; whnf) | exact x_pick_t rfl (by conv => lhs; whnf) | exact x_pick_f rfl (by conv => lhs; whnf) | exact x_not rfl | exact x_extract rfl rfl | exact x_nilCheck rfl | exact x_load_ints rfl (by assumption) (by omega) | exact x_load_bints rfl (by assumption) (by omega) | exact x_load_flw rfl (by assumption) (by assumption) rfl | exact x_load1 rfl (by assumption) rfl | exact x_load_fl rfl (by assumption) rfl (by assumption) rfl | exact x_load_fl1 rfl (by assumption) rfl (by assumption) | exact x_indexAddrN1 rfl rfl (by omega) | exact x_slice_hN rfl (by assumption) rfl (by omega) | exact x_indexAddr1 rfl rfl (by omega) (by omega) | exact x_add64 rfl rfl (by omega) (by omega) | exact x_sub64 rfl rfl (by omega) (by omega) | exact x_len_slice rfl | exact x_len_string rfl | exact x_fieldAddrN rfl (by first | exact Nat.zero_add _ | exact Nat.add_zero _ | (simp only [Nat.reduceAdd] <;> rfl) | exact rfl))); (focus (exact hS)))
 (apply AtH_take 9 rfl (by decide +kernel) (by first | exact rfl | exact ⟨_, _, rfl, by decide, rfl, rfl⟩); (focus (intro wx hx; skip; first | exact x_len_str rfl | exact x_xorW rfl rfl | exact x_andW rfl rfl | exact x_orW rfl rfl | exact x_addW rfl rfl | exact x_load_bw rfl (by assumption) (by omega) | exact x_load_sw rfl (by assumption) (by omega) | exact x_load_bb rfl (by assumption) (by omega) | exact x_load_sb rfl (by assumption) (by omega) | exact x_indexAddrA rfl rfl (by omega) | exact x_indexAddrI rfl rfl (by omega) (by omega) | exact x_quoI rfl rfl (by omega) (by omega) (by omega) | exact x_remI rfl rfl (by omega) (by omega) | exact x_mul64 rfl rfl (by omega) (by omega) | exact x_shlW rfl rfl (by omega) | exact x_shrW rfl rfl (by omega) | exact x_conv_bw rfl | exact x_conv_wb rfl | exact x_neg64 rfl (by omega) (by omega) | exact x_xorB rfl rfl | exact x_slice_arr rfl | exact x_slice_arr_l rfl rfl (by omega) | exact x_slice_arr_h rfl rfl (by omega) | exact x_notW rfl | exact x_move (by conv => lhs; whnf) | exact x_assign (by conv => lhs; whnf) | exact x_pick_t rfl (by conv => lhs; whnf) | exact x_pick_f rfl (by conv => lhs; whnf) | exact x_not rfl | exact x_extract rfl rfl | exact x_nilCheck rfl | exact x_load_ints rfl (by assumption) (by omega) | exact x_load_bints rfl (by assumption) (by omega) | exact x_load_flw rfl (by assumption) (by assumption) rfl | exact x_load1 rfl (by assumption) rfl | exact x_load_fl rfl (by assumption) rfl (by assumption) rfl | exact x_load_fl1 rfl (by assumption) rfl (by assumption) | exact x_indexAddrN1 rfl rfl (by omega) | exact x_slice_hN rfl (by assumption) rfl (by omega) | exact x_indexAddr1 rfl rfl (by omega) (by omega) | exact x_add64 rfl rfl (by omega) (by omega) | exact x_sub64 rfl rfl (by omega) (by omega) | exact x_len_slice rfl | exact x_len_string rfl | exact x_fieldAddrN rfl (by first | exact Nat.zero_add _ | exact Nat.add_zero _ | (simp only [Nat.reduceAdd] <;> rfl) | exact rfl))); (focus (exact hS)))
 (apply AtH_take 10 rfl (by decide +kernel) (by first | exact rfl | exact ⟨_, _, rfl, by decide, rfl, rfl⟩); (focus (intro wx hx; skip; first | exact x_len_str rfl | exact x_xorW rfl rfl | exact x_andW rfl rfl | exact x_orW rfl rfl | exact x_addW rfl rfl | exact x_load_bw rfl (by assumption) (by omega) | exact x_load_sw rfl (by assumption) (by omega) | exact x_load_bb rfl (by assumption) (by omega) | exact x_load_sb rfl (by assumption) (by omega) | exact x_indexAddrA rfl rfl (by omega) | exact x_indexAddrI rfl rfl (by omega) (by omega) | exact x_quoI rfl rfl (by omega) (by omega) (by omega) | exact x_remI rfl rfl (by omega) (by omega) | exact x_mul64 rfl rfl (by omega) (by omega) | exact x_shlW rfl rfl (by omega) | exact x_shrW rfl rfl (by omega) | exact x_conv_bw rfl | exact x_conv_wb rfl | exact x_neg64 rfl (by omega) (by omega) | exact x_xorB rfl rfl | exact x_slice_arr rfl | exact x_slice_arr_l rfl rfl (by omega) | exact x_slice_arr_h rfl rfl (by omega) | exact x_notW rfl | exact x_move (by conv => lhs; whnf) | exact x_assign (by conv => lhs; whnf) | exact x_pick_t rfl (by conv => lhs; whnf) | exact x_pick_f rfl (by conv => lhs; whnf) | exact x_not rfl | exact x_extract rfl rfl | exact x_nilCheck rfl | exact x_load_ints rfl (by assumption) (by omega) | exact x_load_bints rfl (by assumption) (by omega) | exact x_load_flw rfl (by assumption) (by assumption) rfl | exact x_load1 rfl (by assumption) rfl | exact x_load_fl rfl (by assumption) rfl (by assumption) rfl | exact x_load_fl1 rfl (by assumption) rfl (by assumption) | exact x_indexAddrN1 rfl rfl (by omega) | exact x_slice_hN rfl (by assumption) rfl (by omega) | exact x_indexAddr1 rfl rfl (by omega) (by omega) | exact x_add64 rfl rfl (by omega) (by omega) | exact x_sub64 rfl rfl (by omega) (by omega) | exact x_len_slice rfl | exact x_len_string rfl | exact x_fieldAddrN rfl (by first | exact Nat.zero_add _ | exact Nat.add_zero _ | (simp only [Nat.reduceAdd] <;> rfl) | exact rfl))); (focus (exact hS)))
 (apply AtH_take 11 rfl (by decide +kernel) (by first | exact rfl | exact ⟨_, _, rfl, by decide, rfl, rfl⟩); (focus (intro wx hx; skip; first | exact x_len_str rfl | exact x_xorW rfl rfl | exact x_andW rfl rfl | exact x_orW rfl rfl | exact x_addW rfl rfl | exact x_load_bw rfl (by assumption) (by omega) | exact x_load_sw rfl (by assumption) (by omega) | exact x_load_bb rfl (by assumption) (by omega) | exact x_load_sb rfl (by assumption) (by omega) | exact x_indexAddrA rfl rfl (by omega) | exact x_indexAddrI rfl rfl (by omega) (by omega) | exact x_quoI rfl rfl (by omega) (by omega) (by omega) | exact x_remI rfl rfl (by omega) (by omega) | exact x_mul64 rfl rfl (by omega) (by omega) | exact x_shlW rfl rfl (by omega) | exact x_shrW rfl rfl (by omega) | exact x_conv_bw rfl | exact x_conv_wb rfl | exact x_neg64 rfl (by omega) (by omega) | exact x_xorB rfl rfl | exact x_slice_arr rfl | exact x_slice_arr_l rfl rfl (by omega) | exact x_slice_arr_h rfl rfl (by omega) | exact x_notW rfl | exact x_move (by conv => lhs; whnf) | exact x_assign (by conv => lhs; whnf) | exact x_pick_t rfl (by conv => lhs; whnf) | exact x_pick_f rfl (by conv => lhs; whnf) | exact x_not rfl | exact x_extract rfl rfl | exact x_nilCheck rfl | exact x_load_ints rfl (by assumption) (by omega) | exact x_load_bints rfl (by assumption) (by omega) | exact x_load_flw rfl (by assumption) (by assumption) rfl | exact x_load1 rfl (by assumption) rfl | exact x_load_fl rfl (by assumption) rfl (by assumption) rfl | exact x_load_fl1 rfl (by assumption) rfl (by assumption) | exact x_indexAddrN1 rfl rfl (by omega) | exact x_slice_hN rfl (by assumption) rfl (by omega) | exact x_indexAddr1 rfl rfl (by omega) (by omega) | exact x_add64 rfl rfl (by omega) (by omega) | exact x_sub64 rfl rfl (by omega) (by omega) | exact x_len_slice rfl | exact x_len_string rfl | exact x_fieldAddrN rfl (by first | exact Nat.zero_add _ | exact Nat.add_zero _ | (simp only [Nat.reduceAdd] <;> rfl) | exact rfl))); (focus (exact hS)))
 refine AtH_call 3 rfl (by decide +kernel) (by first | exact rfl | exact ⟨_, _, rfl, by decide, rfl, rfl⟩) x_call  (rotl_calls x a _ ha ha') ?_
 rintro _ _ ⟨rfl, rfl⟩
 refine ⟨_, rfl, hS, ?_⟩
 refine AtH_call 7 rfl (by decide +kernel) (by first | exact rfl | exact ⟨_, _, rfl, by decide, rfl, rfl⟩) x_call  (rotl_calls x b _ hb hb') ?_
 rintro _ _ ⟨rfl, rfl⟩
 refine ⟨_, rfl, hS, ?_⟩
 (apply AtH_take 8 rfl (by decide +kernel) (by first | exact rfl | exact ⟨_, _, rfl, by decide, rfl, rfl⟩); (focus (intro wx hx; skip; first | exact x_len_str rfl | exact x_xorW rfl rfl | exact x_andW rfl rfl | exact x_orW rfl rfl | exact x_addW rfl rfl | exact x_load_bw rfl (by assumption) (by omega) | exact x_load_sw rfl (by assumption) (by omega) | exact x_load_bb rfl (by assumption) (by omega) | exact x_load_sb rfl (by assumption) (by omega) | exact x_indexAddrA rfl rfl (by omega) | exact x_indexAddrI rfl rfl (by omega) (by omega) | exact x_quoI rfl rfl (by omega) (by omega) (by omega) | exact x_remI rfl rfl (by omega) (by omega) | exact x_mul64 rfl rfl (by omega) (by omega) | exact x_shlW rfl rfl (by omega) | exact x_shrW rfl rfl (by omega) | exact x_conv_bw rfl | exact x_conv_wb rfl | exact x_neg64 rfl (by omega) (by omega) | exact x_xorB rfl rfl | exact x_slice_arr rfl | exact x_slice_arr_l rfl rfl (by omega) | exact x_slice_arr_h rfl rfl (by omega) | exact x_notW rfl | exact x_move (by conv => lhs; whnf) | exact x_assign (by conv => lhs; whnf) | exact x_pick_t rfl (by conv => lhs; whnf) | exact x_pick_f rfl (by conv => lhs; whnf) | exact x_not rfl | exact x_extract rfl rfl | exact x_nilCheck rfl | exact x_load_ints rfl (by assumption) (by omega) | exact x_load_bints rfl (by assumption) (by omega) | exact x_load_flw rfl (by assumption) (by assumption) rfl | exact x_load1 rfl (by assumption) rfl | exact x_load_fl rfl (by assumption) rfl (by assumption) rfl | exact x_load_fl1 rfl (by assumption) rfl (by assumption) | exact x_indexAddrN1 rfl rfl (by omega) | exact x_slice_hN rfl (by assumption) rfl (by omega) | exact x_indexAddr1 rfl rfl (by omega) (by omega) | exact x_add64 rfl rfl (by omega) (by omega) | exact x_sub64 rfl rfl (by omega) (by omega) | exact x_len_slice rfl | exact x_len_string rfl | exact x_fieldAddrN rfl (by first | exact Nat.zero_add _ | exact Nat.add_zero _ | (simp only [Nat.reduceAdd] <;> rfl) | exact rfl))); (focus (exact hS)))
 (apply AtH_take 12 rfl (by decide +kernel) (by first | exact rfl | exact ⟨_, _, rfl, by decide, rfl, rfl⟩); (focus (intro wx hx; skip; first | exact x_len_str rfl | exact x_xorW rfl rfl | exact x_andW rfl rfl | exact x_orW rfl rfl | exact x_addW rfl rfl | exact x_load_bw rfl (by assumption) (by omega) | exact x_load_sw rfl (by assumption) (by omega) | exact x_load_bb rfl (by assumption) (by omega) | exact x_load_sb rfl (by assumption) (by omega) | exact x_indexAddrA rfl rfl (by omega) | exact x_indexAddrI rfl rfl (by omega) (by omega) | exact x_quoI rfl rfl (by omega) (by omega) (by omega) | exact x_remI rfl rfl (by omega) (by omega) | exact x_mul64 rfl rfl (by omega) (by omega) | exact x_shlW rfl rfl (by omega) | exact x_shrW rfl rfl (by omega) | exact x_conv_bw rfl | exact x_conv_wb rfl | exact x_neg64 rfl (by omega) (by omega) | exact x_xorB rfl rfl | exact x_slice_arr rfl | exact x_slice_arr_l rfl rfl (by omega) | exact x_slice_arr_h rfl rfl (by omega) | exact x_notW rfl | exact x_move (by conv => lhs; whnf) | exact x_assign (by conv => lhs; whnf) | exact x_pick_t rfl (by conv => lhs; whnf) | exact x_pick_f rfl (by conv => lhs; whnf) | exact x_not rfl | exact x_extract rfl rfl | exact x_nilCheck rfl | exact x_load_ints rfl (by assumption) (by omega) | exact x_load_bints rfl (by assumption) (by omega) | exact x_load_flw rfl (by assumption) (by assumption) rfl | exact x_load1 rfl (by assumption) rfl | exact x_load_fl rfl (by assumption) rfl (by assumption) rfl | exact x_load_fl1 rfl (by assumption) rfl (by assumption) | exact x_indexAddrN1 rfl rfl (by omega) | exact x_slice_hN rfl (by assumption) rfl (by omega) | exact x_indexAddr1 rfl rfl (by omega) (by omega) | exact x_add64 rfl rfl (by omega) (by omega) | exact x_sub64 rfl rfl (by omega) (by omega) | exact x_len_slice rfl | exact x_len_string rfl | exact x_fieldAddrN rfl (by first | exact Nat.zero_add _ | exact Nat.add_zero _ | (simp only [Nat.reduceAdd] <;> rfl) | exact rfl))); (focus (exact hS)))
 (apply AtH_take 13 rfl (by decide +kernel) (by first | exact rfl | exact ⟨_, _, rfl, by decide, rfl, rfl⟩); (focus (intro wx hx; skip; first | exact x_len_str rfl | exact x_xorW rfl rfl | exact x_andW rfl rfl | exact x_orW rfl rfl | exact x_addW rfl rfl | exact x_load_bw rfl (by assumption) (by omega) | exact x_load_sw rfl (by assumption) (by omega) | exact x_load_bb rfl (by assumption) (by omega) | exact x_load_sb rfl (by assumption) (by omega) | exact x_indexAddrA rfl rfl (by omega) | exact x_indexAddrI rfl rfl (by omega) (by omega) | exact x_quoI rfl rfl (by omega) (by omega) (by omega) | exact x_remI rfl rfl (by omega) (by omega) | exact x_mul64 rfl rfl (by omega) (by omega) | exact x_shlW rfl rfl (by omega) | exact x_shrW rfl rfl (by omega) | exact x_conv_bw rfl | exact x_conv_wb rfl | exact x_neg64 rfl (by omega) (by omega) | exact x_xorB rfl rfl | exact x_slice_arr rfl | exact x_slice_arr_l rfl rfl (by omega) | exact x_slice_arr_h rfl rfl (by omega) | exact x_notW rfl | exact x_move (by conv => lhs; whnf) | exact x_assign (by conv => lhs; whnf) | exact x_pick_t rfl (by conv => lhs; whnf) | exact x_pick_f rfl (by conv => lhs; whnf) | exact x_not rfl | exact x_extract rfl rfl | exact x_nilCheck rfl | exact x_load_ints rfl (by assumption) (by omega) | exact x_load_bints rfl (by assumption) (by omega) | exact x_load_flw rfl (by assumption) (by assumption) rfl | exact x_load1 rfl (by assumption) rfl | exact x_load_fl rfl (by assumption) rfl (by assumption) rfl | exact x_load_fl1 rfl (by assumption) rfl (by assumption) | exact x_indexAddrN1 rfl rfl (by omega) | exact x_slice_hN rfl (by assumption) rfl (by omega) | exact x_indexAddr1 rfl rfl (by omega) (by omega) | exact x_add64 rfl rfl (by omega) (by omega) | exact x_sub64 rfl rfl (by omega) (by omega) | exact x_len_slice rfl | exact x_len_string rfl | exact x_fieldAddrN rfl (by first | exact Nat.zero_add _ | exact Nat.add_zero _ | (simp only [Nat.reduceAdd] <;> rfl) | exact rfl))); (focus (exact hS)))
 refine AtH_done (by decide +kernel) ?_
 skip
 refine At_ret1 Tryd.func152 rfl (by conv => lhs; whnf) ?_
 rw [Int.toNat_natCast]
 exact ⟨rfl, Kp.drew⟩
theorem rotr_calls (x : BitVec 64) (m : Nat) (w : World) (h : m ≤ 64) :
  Calls Tryd.prog 143 #[.int .u64 (uw x), .int .i64 (m : Int)] w fun e w' => e = .returned (.int .u64 (uw (rot x m))) ∧ Kp No w w' := by
 refine calls_at (n := 13) Tryd.func143 rfl rfl (by simp) ?_
 (refine At_seq (At_region ?_); refine s_as ?_; refine AtR_nil (At_seq ?_))
 refine At_draw (fun _ => True) rfl ?_
 have hS : True := trivial
 (apply AtH_take 0 rfl (by decide +kernel) (by first | exact rfl | exact ⟨_, _, rfl, by decide, rfl, rfl⟩); (focus (intro wx hx; skip; first | exact x_len_str rfl | exact x_xorW rfl rfl | exact x_andW rfl rfl | exact x_orW rfl rfl | exact x_addW rfl rfl | exact x_load_bw rfl (by assumption) (by omega) | exact x_load_sw rfl (by assumption) (by omega) | exact x_load_bb rfl (by assumption) (by omega) | exact x_load_sb rfl (by assumption) (by omega) | exact x_indexAddrA rfl rfl (by omega) | exact x_indexAddrI rfl rfl (by omega) (by omega) | exact x_quoI rfl rfl (by omega) (by omega) (by omega) | exact x_remI rfl rfl (by omega) (by omega) | exact x_mul64 rfl rfl (by omega) (by omega) | exact x_shlW rfl rfl (by omega) | exact x_shrW rfl rfl (by omega) | exact x_conv_bw rfl | exact x_conv_wb rfl | exact x_neg64 rfl (by omega) (by omega) | exact x_xorB rfl rfl | exact x_slice_arr rfl | exact x_slice_arr_l rfl rfl (by omega) | exact x_slice_arr_h rfl rfl (by omega) | exact x_notW rfl | exact x_move (by conv => lhs; whnf) | exact x_assign (by conv => lhs; whnf) | exact x_pick_t rfl (by conv => lhs; whnf) | exact x_pick_f rfl (by conv => lhs; whnf) | exact x_not rfl | exact x_extract rfl rfl | exact x_nilCheck rfl | exact x_load_ints rfl (by assumption) (by omega) | exact x_load_bints rfl (by assumption) (by omega) | exact x_load_flw rfl (by assumption) (by assumption) rfl | exact x_load1 rfl (by assumption) rfl | exact x_load_fl rfl (by assumption) rfl (by assumption) rfl | exact x_load_fl1 rfl (by assumption) rfl (by assumption) | exact x_indexAddrN1 rfl rfl (by omega) | exact x_slice_hN rfl (by assumption) rfl (by omega) | exact x_indexAddr1 rfl rfl (by omega) (by omega) | exact x_add64 rfl rfl (by omega) (by omega) | exact x_sub64 rfl rfl (by omega) (by omega) | exact x_len_slice rfl | exact x_len_string rfl | exact x_fieldAddrN rfl (by first | exact Nat.zero_add _ | exact Nat.add_zero _ | (simp only [Nat.reduceAdd] <;> rfl) | exact rfl))); (focus (exact hS)))
 (apply AtH_take 1 rfl (by decide +kernel) (by first | exact rfl | exact ⟨_, _, rfl, by decide, rfl, rfl⟩); (focus (intro wx hx; skip; first | exact x_len_str rfl | exact x_xorW rfl rfl | exact x_andW rfl rfl | exact x_orW rfl rfl | exact x_addW rfl rfl | exact x_load_bw rfl (by assumption) (by omega) | exact x_load_sw rfl (by assumption) (by omega) | exact x_load_bb rfl (by assumption) (by omega) | exact x_load_sb rfl (by assumption) (by omega) | exact x_indexAddrA rfl rfl (by omega) | exact x_indexAddrI rfl rfl (by omega) (by omega) | exact x_quoI rfl rfl (by omega) (by omega) (by omega) | exact x_remI rfl rfl (by omega) (by omega) | exact x_mul64 rfl rfl (by omega) (by omega) | exact x_shlW rfl rfl (by omega) | exact x_shrW rfl rfl (by omega) | exact x_conv_bw rfl | exact x_conv_wb rfl | exact x_neg64 rfl (by omega) (by omega) | exact x_xorB rfl rfl | exact x_slice_arr rfl | exact x_slice_arr_l rfl rfl (by omega) | exact x_slice_arr_h rfl rfl (by omega) | exact x_notW rfl | exact x_move (by conv => lhs; whnf) | exact x_assign (by conv => lhs; whnf) | exact x_pick_t rfl (by conv => lhs; whnf) | exact x_pick_f rfl (by conv => lhs; whnf) | exact x_not rfl | exact x_extract rfl rfl | exact x_nilCheck rfl | exact x_load_ints rfl (by assumption) (by omega) | exact x_load_bints rfl (by assumption) (by omega) | exact x_load_flw rfl (by assumption) (by assumption) rfl | exact x_load1 rfl (by assumption) rfl | exact x_load_fl rfl (by assumption) rfl (by assumption) rfl | exact x_load_fl1 rfl (by assumption) rfl (by assumption) | exact x_indexAddrN1 rfl rfl (by omega) | exact x_slice_hN rfl (by assumption) rfl (by omega) | exact x_indexAddr1 rfl rfl (by omega) (by omega) | exact x_add64 rfl rfl (by omega) (by omega) | exact x_sub64 rfl rfl (by omega) (by omega) | exact x_len_slice rfl | exact x_len_string rfl | exact x_fieldAddrN rfl (by first | exact Nat.zero_add _ | exact Nat.add_zero _ | (simp only [Nat.reduceAdd] <;> rfl) | exact rfl))); (focus (exact hS)))
 (apply AtH_take 2 rfl (by decide +kernel) (by first | exact rfl | exact ⟨_, _, rfl, by decide, rfl, rfl⟩); (focus (intro wx hx; skip; first | exact x_len_str rfl | exact x_xorW rfl rfl | exact x_andW rfl rfl | exact x_orW rfl rfl | exact x_addW rfl rfl | exact x_load_bw rfl (by assumption) (by omega) | exact x_load_sw rfl (by assumption) (by omega) | exact x_load_bb rfl (by assumption) (by omega) | exact x_load_sb rfl (by assumption) (by omega) | exact x_indexAddrA rfl rfl (by omega) | exact x_indexAddrI rfl rfl (by omega) (by omega) | exact x_quoI rfl rfl (by omega) (by omega) (by omega) | exact x_remI rfl rfl (by omega) (by omega) | exact x_mul64 rfl rfl (by omega) (by omega) | exact x_shlW rfl rfl (by omega) | exact x_shrW rfl rfl (by omega) | exact x_conv_bw rfl | exact x_conv_wb rfl | exact x_neg64 rfl (by omega) (by omega) | exact x_xorB rfl rfl | exact x_slice_arr rfl | exact x_slice_arr_l rfl rfl (by omega) | exact x_slice_arr_h rfl rfl (by omega) | exact x_notW rfl | exact x_move (by conv => lhs; whnf) | exact x_assign (by conv => lhs; whnf) | exact x_pick_t rfl (by conv => lhs; whnf) | exact x_pick_f rfl (by conv => lhs; whnf) | exact x_not rfl | exact x_extract rfl rfl | exact x_nilCheck rfl | exact x_load_ints rfl (by assumption) (by omega) | exact x_load_bints rfl (by assumption) (by omega) | exact x_load_flw rfl (by assumption) (by assumption) rfl | exact x_load1 rfl (by assumption) rfl | exact x_load_fl rfl (by assumption) rfl (by assumption) rfl | exact x_load_fl1 rfl (by assumption) rfl (by assumption) | exact x_indexAddrN1 rfl rfl (by omega) | exact x_slice_hN rfl (by assumption) rfl (by omega) | exact x_indexAddr1 rfl rfl (by omega) (by omega) | exact x_add64 rfl rfl (by omega) (by omega) | exact x_sub64 rfl rfl (by omega) (by omega) | exact x_len_slice rfl | exact x_len_string rfl | exact x_fieldAddrN rfl (by first | exact Nat.zero_add _ | exact Nat.add_zero _ | (simp only [Nat.reduceAdd] <;> rfl) | exact rfl))); (focus (exact hS)))
 (apply AtH_take 3 rfl (by decide +kernel) (by first | exact rfl | exact ⟨_, _, rfl, by decide, rfl, rfl⟩); (focus (intro wx hx; skip; first | exact x_len_str rfl | exact x_xorW rfl rfl | exact x_andW rfl rfl | exact x_orW rfl rfl | exact x_addW rfl rfl | exact x_load_bw rfl (by assumption) (by omega) | exact x_load_sw rfl (by assumption) (by omega) | exact x_load_bb rfl (by assumption) (by omega) | exact x_load_sb rfl (by assumption) (by omega) | exact x_indexAddrA rfl rfl (by omega) | exact x_indexAddrI rfl rfl (by omega) (by omega) | exact x_quoI rfl rfl (by omega) (by omega) (by omega) | exact x_remI rfl rfl (by omega) (by omega) | exact x_mul64 rfl rfl (by omega) (by omega) | exact x_shlW rfl rfl (by omega) | exact x_shrW rfl rfl (by omega) | exact x_conv_bw rfl | exact x_conv_wb rfl | exact x_neg64 rfl (by omega) (by omega) | exact x_xorB rfl rfl | exact x_slice_arr rfl | exact x_slice_arr_l rfl rfl (by omega) | exact x_slice_arr_h rfl rfl (by omega) | exact x_notW rfl | exact x_move (by conv => lhs; whnf) | exact x_assign (by conv => lhs; whnf) | exact x_pick_t rfl (by conv => lhs; whnf) | exact x_pick_f rfl (by conv => lhs; whnf) | exact x_not rfl | exact x_extract rfl rfl | exact x_nilCheck rfl | exact x_load_ints rfl (by assumption) (by omega) | exact x_load_bints rfl (by assumption) (by omega) | exact x_load_flw rfl (by assumption) (by assumption) rfl | exact x_load1 rfl (by assumption) rfl | exact x_load_fl rfl (by assumption) rfl (by assumption) rfl | exact x_load_fl1 rfl (by assumption) rfl (by assumption) | exact x_indexAddrN1 rfl rfl (by omega) | exact x_slice_hN rfl (by assumption) rfl (by omega) | exact x_indexAddr1 rfl rfl (by omega) (by omega) | exact x_add64 rfl rfl (by omega) (by omega) | exact x_sub64 rfl rfl (by omega) (by omega) | exact x_len_slice rfl | exact x_len_string rfl | exact x_fieldAddrN rfl (by first | exact Nat.zero_add _ | exact Nat.add_zero _ | (simp only [Nat.reduceAdd] <;> rfl) | exact rfl))); (focus (exact hS)))
 (apply AtH_take 4 rfl (by decide +kernel) (by first | exact rfl | exact ⟨_, _, rfl, by decide, rfl, rfl⟩); (focus (intro wx hx; skip; first | exact x_len_str rfl | exact x_xorW rfl rfl | exact x_andW rfl rfl | exact x_orW rfl rfl | exact x_addW rfl rfl | exact x_load_bw rfl (by assumption) (by omega) | exact x_load_sw rfl (by assumption) (by omega) | exact x_load_bb rfl (by assumption) (by omega) | exact x_load_sb rfl (by assumption) (by omega) | exact x_indexAddrA rfl rfl (by omega) | exact x_indexAddrI rfl rfl (by omega) (by omega) | exact x_quoI rfl rfl (by omega) (by omega) (by omega) | exact x_remI rfl rfl (by omega) (by omega) | exact x_mul64 rfl rfl (by omega) (by omega) | exact x_shlW rfl rfl (by omega) | exact x_shrW rfl rfl (by omega) | exact x_conv_bw rfl | exact x_conv_wb rfl | exact x_neg64 rfl (by omega) (by omega) | exact x_xorB rfl rfl | exact x_slice_arr rfl | exact x_slice_arr_l rfl rfl (by omega) | exact x_slice_arr_h rfl rfl (by omega) | exact x_notW rfl | exact x_move (by conv => lhs; whnf) | exact x_assign (by conv => lhs; whnf) | exact x_pick_t rfl (by conv => lhs; whnf) | exact x_pick_f rfl (by conv => lhs; whnf) | exact x_not rfl | exact x_extract rfl rfl | exact x_nilCheck rfl | exact x_load_ints rfl (by assumption) (by omega) | exact x_load_bints rfl (by assumption) (by omega) | exact x_load_flw rfl (by assumption) (by assumption) rfl | exact x_load1 rfl (by assumption) rfl | exact x_load_fl rfl (by assumption) rfl (by assumption) rfl | exact x_load_fl1 rfl (by assumption) rfl (by assumption) | exact x_indexAddrN1 rfl rfl (by omega) | exact x_slice_hN rfl (by assumption) rfl (by omega) | exact x_indexAddr1 rfl rfl (by omega) (by omega) | exact x_add64 rfl rfl (by omega) (by omega) | exact x_sub64 rfl rfl (by omega) (by omega) | exact x_len_slice rfl | exact x_len_string rfl | exact x_fieldAddrN rfl (by first | exact Nat.zero_add _ | exact Nat.add_zero _ | (simp only [Nat.reduceAdd] <;> rfl) | exact rfl))); (focus (exact hS)))
 (apply AtH_take 5 rfl (by decide +kernel) (by first | exact rfl | exact ⟨_, _, rfl, by decide, rfl, rfl⟩); (focus (intro wx hx; skip; first | exact x_len_str rfl | exact x_xorW rfl rfl | exact x_andW rfl rfl | exact x_orW rfl rfl | exact x_addW rfl rfl | exact x_load_bw rfl (by assumption) (by omega) | exact x_load_sw rfl (by assumption) (by omega) | exact x_load_bb rfl (by assumption) (by omega) | exact x_load_sb rfl (by assumption) (by omega) | exact x_indexAddrA rfl rfl (by omega) | exact x_indexAddrI rfl rfl (by omega) (by omega) | exact x_quoI rfl rfl (by omega) (by omega) (by omega) | exact x_remI rfl rfl (by omega) (by omega) | exact x_mul64 rfl rfl (by omega) (by omega) | exact x_shlW rfl rfl (by omega) | exact x_shrW rfl rfl (by omega) | exact x_conv_bw rfl | exact x_conv_wb rfl | exact x_neg64 rfl (by omega) (by omega) | exact x_xorB rfl rfl | exact x_slice_arr rfl | exact x_slice_arr_l rfl rfl (by omega) | exact x_slice_arr_h rfl rfl (by omega) | exact x_notW rfl | exact x_move (by conv => lhs; whnf) | exact x_assign (by conv => lhs; whnf) | exact x_pick_t rfl (by conv => lhs; whnf) | exact x_pick_f rfl (by conv => lhs; whnf) | exact x_not rfl | exact x_extract rfl rfl | exact x_nilCheck rfl | exact x_load_ints rfl (by assumption) (by omega) | exact x_load_bints rfl (by assumption) (by omega) | exact x_load_flw rfl (by assumption) (by assumption) rfl | exact x_load1 rfl (by assumption) rfl | exact x_load_fl rfl (by assumption) rfl (by assumption) rfl | exact x_load_fl1 rfl (by assumption) rfl (by assumption) | exact x_indexAddrN1 rfl rfl (by omega) | exact x_slice_hN rfl (by assumption) rfl (by omega) | exact x_indexAddr1 rfl rfl (by omega) (by omega) | exact x_add64 rfl rfl (by omega) (by omega) | exact x_sub64 rfl rfl (by omega) (by omega) | exact x_len_slice rfl | exact x_len_string rfl | exact x_fieldAddrN rfl (by first | exact Nat.zero_add _ | exact Nat.add_zero _ | (simp only [Nat.reduceAdd] <;> rfl) | exact rfl))); (focus (exact hS)))
 (apply AtH_take 6 rfl (by decide +kernel) (by first | exact rfl | exact ⟨_, _, rfl, by decide, rfl, rfl⟩); (focus (intro wx hx; skip; first | exact x_len_str rfl | exact x_xorW rfl rfl | exact x_andW rfl rfl | exact x_orW rfl rfl | exact x_addW rfl rfl | exact x_load_bw rfl (by assumption) (by omega) | exact x_load_sw rfl (by assumption) (by omega) | exact x_load_bb rfl (by assumption) (by omega) | exact x_load_sb rfl (by assumption) (by omega) | exact x_indexAddrA rfl rfl (by omega) | exact x_indexAddrI rfl rfl (by omega) (by omega) | exact x_quoI rfl rfl (by omega) (by omega) (by omega) | exact x_remI rfl rfl (by omega) (by omega) | exact x_mul64 rfl rfl (by omega) (by omega) | exact x_shlW rfl rfl (by omega) | exact x_shrW rfl rfl (by omega) | exact x_conv_bw rfl | exact x_conv_wb rfl | exact x_neg64 rfl (by omega) (by omega) | exact x_xorB rfl rfl | exact x_slice_arr rfl | exact x_slice_arr_l rfl rfl (by omega) | exact x_slice_arr_h rfl rfl (by omega) | exact x_notW rfl | exact x_move (by conv => lhs; whnf) | exact x_assign (by conv => lhs; whnf) | exact x_pick_t rfl (by conv => lhs; whnf) | exact x_pick_f rfl (by conv => lhs; whnf) | exact x_not rfl | exact x_extract rfl rfl | exact x_nilCheck rfl | exact x_load_ints rfl (by assumption) (by omega) | exact x_load_bints rfl (by assumption) (by omega) | exact x_load_flw rfl (by assumption) (by assumption) rfl | exact x_load1 rfl (by assumption) rfl | exact x_load_fl rfl (by assumption) rfl (by assumption) rfl | exact x_load_fl1 rfl (by assumption) rfl (by assumption) | exact x_indexAddrN1 rfl rfl (by omega) | exact x_slice_hN rfl (by assumption) rfl (by omega) | exact x_indexAddr1 rfl rfl (by omega) (by omega) | exact x_add64 rfl rfl (by omega) (by omega) | exact x_sub64 rfl rfl (by omega) (by omega) | exact x_len_slice rfl | exact x_len_string rfl | exact x_fieldAddrN rfl (by first | exact Nat.zero_add _ | exact Nat.add_zero _ | (simp only [Nat.reduceAdd] <;> rfl) | exact rfl))); (focus (exact hS)))
 (apply AtH_take 7 rfl (by decide +kernel) (by first | exact rfl | exact ⟨_, _, rfl, by decide, rfl, rfl⟩); (focus (intro wx hx; skip; first | exact x_len_str rfl | exact x_xorW rfl rfl | exact x_andW rfl rfl | exact x_orW rfl rfl | exact x_addW rfl rfl | exact x_load_bw rfl (by assumption) (by omega) | exact x_load_sw rfl (by assumption) (by omega) | exact x_load_bb rfl (by assumption) (by omega) | exact x_load_sb rfl (by assumption) (by omega) | exact x_indexAddrA rfl rfl (by omega) | exact x_indexAddrI rfl rfl (by omega) (by omega) | exact x_quoI rfl rfl (by omega) (by omega) (by omega) | exact x_remI rfl rfl (by omega) (by omega) | exact x_mul64 rfl rfl (by omega) (by omega) | exact x_shlW rfl rfl (by omega) | exact x_shrW rfl rfl (by omega) | exact x_conv_bw rfl | exact x_conv_wb rfl | exact x_neg64 rfl (by omega) (by omega) | exact x_xorB rfl rfl | exact x_slice_arr rfl | exact x_slice_arr_l rfl rfl (by omega) | exact x_slice_arr_h rfl rfl (by omega) | exact x_notW rfl | exact x_move (by conv => lhs; whnf) | exact x_assign (by conv => lhs; whnf) | exact x_pick_t rfl (by conv => lhs; whnf) | exact x_pick_f rfl (by conv => lhs; whnf) | exact x_not rfl | exact x_extract rfl rfl | exact x_nilCheck rfl | exact x_load_ints rfl (by assumption) (by omega) | exact x_load_bints rfl (by assumption) (by omega) | exact x_load_flw rfl (by assumption) (by assumption) rfl | exact x_load1 rfl (by assumption) rfl | exact x_load_fl rfl (by assumption) rfl (by assumption) rfl | exact x_load_fl1 rfl (by assumption) rfl (by assumption) | exact x_indexAddrN1 rfl rfl (by omega) | exact x_slice_hN rfl (by assumption) rfl (by omega) | exact x_indexAddr1 rfl rfl (by omega) (by omega) | exact x_add64 rfl rfl (by omega) (by omega) | exact x_sub64 rfl rfl (by omega) (by omega) | exact x_len_slice rfl | exact x_len_string rfl | exact x_fieldAddrN rfl (by first | exact Nat.zero_add _ | exact Nat.add_zero _ | (simp only [Nat.reduceAdd] <;> rfl) | exact rfl))); (focus (exact hS)))
 (apply AtH_take 8 rfl (by decide +kernel) (by first | exact rfl | exact ⟨_, _, rfl, by decide, rfl, rfl⟩); (focus (intro wx hx; skip; first | exact x_len_str rfl | exact x_xorW rfl rfl | exact x_andW rfl rfl | exact x_orW rfl rfl | exact x_addW rfl rfl | exact x_load_bw rfl (by assumption) (by omega) | exact x_load_sw rfl (by assumption) (by omega) | exact x_load_bb rfl (by assumption) (by omega) | exact x_load_sb rfl (by assumption) (by omega) | exact x_indexAddrA rfl rfl (by omega) | exact x_indexAddrI rfl rfl (by omega) (by omega) | exact x_quoI rfl rfl (by omega) (by omega) (by omega) | exact x_remI rfl rfl (by omega) (by omega) | exact x_mul64 rfl rfl (by omega) (by omega) | exact x_shlW rfl rfl (by omega) | exact x_shrW rfl rfl (by omega) | exact x_conv_bw rfl | exact x_conv_wb rfl | exact x_neg64 rfl (by omega) (by omega) | exact x_xorB rfl rfl | exact x_slice_arr rfl | exact x_slice_arr_l rfl rfl (by omega) | exact x_slice_arr_h rfl rfl (by omega) | exact x_notW rfl | exact x_move (by conv => lhs; whnf) | exact x_assign (by conv => lhs; whnf) | exact x_pick_t rfl (by conv => lhs; whnf) | exact x_pick_f rfl (by conv => lhs; whnf) | exact x_not rfl | exact x_extract rfl rfl | exact x_nilCheck rfl | exact x_load_ints rfl (by assumption) (by omega) | exact x_load_bints rfl (by assumption) (by omega) | exact x_load_flw rfl (by assumption) (by assumption) rfl | exact x_load1 rfl (by assumption) rfl | exact x_load_fl rfl (by assumption) rfl (by assumption) rfl | exact x_load_fl1 rfl (by assumption) rfl (by assumption) | exact x_indexAddrN1 rfl rfl (by omega) | exact x_slice_hN rfl (by assumption) rfl (by omega) | exact x_indexAddr1 rfl rfl (by omega) (by omega) | exact x_add64 rfl rfl (by omega) (by omega) | exact x_sub64 rfl rfl (by omega) (by omega) | exact x_len_slice rfl | exact x_len_string rfl | exact x_fieldAddrN rfl (by first | exact Nat.zero_add _ | exact Nat.add_zero _ | (simp only [Nat.reduceAdd] <;> rfl) | exact rfl))); (focus (exact hS)))
 refine AtH_done (by decide +kernel) ?_
 skip
 refine At_ret1 Tryd.func143 rfl (by conv => lhs; whnf) ?_
 rw [Int.toNat_natCast, show (64 - (m : Int)).toNat = 64 - m by omega]
 exact ⟨rfl, Kp.drew⟩
end Go.Proofs.YtfngacepjcdlnaaDoor
namespace Go.Proofs.YtfngacepjcdlnaaDoor
open Go Go.Kx
def beW (l : List UInt8) : BitVec 64 := l.foldl (fun a c => a * 256 + BitVec.ofNat 64 c.toNat) 0
def wordsTo (l : List UInt8) (i : Nat) : List (BitVec 64) := (List.range 16).map fun j => beW (((l.take i).drop (8 * j)).take 8)
def wordsOf (l : List UInt8) : List (BitVec 64) := wordsTo l 128
@[simp] theorem wordsTo_length (l : List UInt8) (i : Nat) : (wordsTo l i).length = 16 := by simp [wordsTo]
theorem beW_snoc (l : List UInt8) (c : UInt8) : beW (l ++ [c]) = beW l * 256 + BitVec.ofNat 64 c.toNat := by simp [beW]
theorem shl_or (a : BitVec 64) (c : UInt8) : (a <<< 8 ||| BitVec.ofNat 64 c.toNat) = a * 256 + BitVec.ofNat 64 c.toNat := by
 have h1 : a * (256 : BitVec 64) = a <<< 8 := by
  apply BitVec.eq_of_toNat_eq
  rw [BitVec.toNat_mul, BitVec.toNat_shiftLeft, Nat.shiftLeft_eq]
  rfl
 rw [h1, BitVec.add_eq_or_of_and_eq_zero]
 apply BitVec.eq_of_getLsbD_eq
 intro i hi
 rw [BitVec.getLsbD_and, BitVec.getLsbD_shiftLeft, BitVec.getLsbD_ofNat]
 have hc := c.toNat_lt
 by_cases h8 : i < 8
 ·simp [h8]
 ·have : c.toNat.testBit i = false := Nat.testBit_lt_two_pow (Nat.lt_of_lt_of_le hc (Nat.pow_le_pow_right (by omega) (show 8 ≤ i by omega)))
  simp [this]
theorem wordsTo_get (l : List UInt8) (i j : Nat) (hj : j < 16) : (wordsTo l i).getD j 0 = beW (((l.take i).drop (8 * j)).take 8) := by
 simp [wordsTo, List.getD, hj]
theorem wordsTo_step (l : List UInt8) (i : Nat) (h : i < l.length) (h2 : i < 128) : (wordsTo l i).set (i / 8) ((wordsTo l i).getD (i / 8) 0 <<< 8 ||| BitVec.ofNat 64 (l.getD i 0).toNat) = wordsTo l (i + 1) := by
 rw [shl_or, wordsTo_get _ _ _ (by omega)]
 apply List.ext_getElem (by simp)
 intro j h3 h4
 have hj : j < 16 := by simpa using h4
 rw [List.getElem_set]
 have e1 : l.take (i + 1) = l.take i ++ [l.getD i 0] := by
  rw [List.take_succ_eq_append_getElem h]; simp [List.getD, h]
 have hlen : (l.take i).length = i := by simp; omega
 by_cases e : i / 8 = j
 ·rw [if_pos e]
  subst e
  simp only [wordsTo, List.getElem_map, List.getElem_range]
  rw [e1, List.drop_append_of_le_length (by omega), List.take_of_length_le (l := List.drop (8 * (i / 8)) (List.take i l)) (by simp; omega), List.take_of_length_le (l := List.drop (8 * (i / 8)) (List.take i l) ++ [l.getD i 0]) (by simp; omega), beW_snoc]
 ·rw [if_neg e]
  simp only [wordsTo, List.getElem_map, List.getElem_range]
  congr 1
  rcases Nat.lt_or_ge j (i / 8) with h5 | h5
  ·rw [e1, List.drop_append_of_le_length (by omega), List.take_append_of_le_length (by simp; omega)]
  ·rw [List.drop_of_length_le (by omega), List.drop_of_length_le (by simp; omega)]
set_option maxRecDepth 100000 in
set_option maxHeartbeats 1000000 in
theorem words_calls (l : List UInt8) (a : Option Addr) (len cap : Nat) (w : World) (hs : Sl w .u8 a len cap (bs8 l)) (h : 128 ≤ len) :
  Calls Tryd.prog 146 #[.slice a len cap] w fun e w' => e = .returned (.agg (ints .u64 (ws (wordsOf l))).toArray) ∧ Kp No w w' := by
 have hl := hs.len_eq
 have hc := hs.le
 have hm := hs.max
 have hsp := hs.spot
 simp only [bs8_length] at hl
 rcases hs.mem with ⟨rfl, h00⟩ | ⟨b, off, rfl, hlt, hsg⟩
 ·omega
 refine calls_at (n := 27) Tryd.func146 rfl rfl (by simp) ?_
 (refine At_seq (At_region ?_))
 refine AtR_go rfl (AtG_alloc fun b2 w1 hb2 e1 => ?_)
 have B2 : Blk w1 b2 241 (0, 0) (ints .u64 (ws (List.replicate 16 0))) := e1.blk
 (refine AtR_nil (At_seq ?_); refine At_region ?_)
 refine AtR_go rfl (AtG_alloc fun b3 w2 hb3 e2 => ?_)
 have B3 : Blk w2 b3 241 (0, 0) (ints .u64 (ws (List.replicate 16 0))) := e2.blk
 have hz1 := e1.size
 have l2 := B2.lt
 have hz2 := e2.size
 have K2 : Kp No w w2 := (e1.kp (.inr (by omega))).trans' (e2.kp (S := fun j => j = b3) (.inl rfl)) (by rintro j rfl; right; omega)
 replace B2 := B2.kp (e2.kp (S := fun j => j = b3) (.inl rfl)) (by omega)
 have l3 := B3.lt
 clear e1 e2
 (refine AtR_nil (At_seq (At_seq (At_region ?_))); refine s_mv ?_)
 refine s_val (x_slice_h' rfl hsp rfl (by omega) (by omega)) ?_
 rw [show (128 : Int).toNat = 128 from rfl]
 have h0 : wordsTo l 0 = List.replicate 16 0 := by simp [wordsTo, beW]; rfl
 rw [← h0] at B3
 (refine s_ln ?_; refine s_mv ?_; refine AtR_nil (At_block ?_))
 refine At_while (fun i : Nat => [(2, .pointer (some ⟨b2, 0, none⟩)), (3, .pointer (some ⟨b3, 0, none⟩)), (7, .slice (some ⟨b, off, none⟩) 128 cap), (8, .int .i64 ((128 : Nat) : Int)), (9, .int .i64 (i : Int))])
  (fun i w' => i ≤ 128 ∧ Blk w' b3 241 (0, 0) (ints .u64 (ws (wordsTo l i))) ∧ Kp (fun j => j = b3) w2 w') (fun i => 128 - i) 0 ⟨rfl, rfl, rfl, rfl, rfl, trivial⟩ ⟨by omega, B3, Kp.refl _ _⟩ ?_
 clear B3 h0
 rintro i w3 junk ⟨hi, B3, K⟩ again
 by_cases hlt' : i < 128
 ·have hsg3 : Seg w3 b off (ints .u8 (bs8 l)) := (hsg.kp K2 id hlt).kp K (by omega) (by omega)
  have hwl : i / 8 < (wordsTo l i).length := by simp; omega
  (refine At_seq (At_region ?_); refine s_lss ?_; refine AtR_nil (At_seq ?_); refine At_cond_t rfl ?_; refine At_skip (At_seq (At_block (At_seq (At_region ?_)))); refine s_mv ?_; refine s_ia ?_; refine s_ldw ?_; refine s_as ?_; refine s_as ?_; refine AtR_nil (At_region ?_); refine s_mv ?_; refine s_qu ?_; refine s_mv ?_; refine s_qu ?_; refine s_iaa ?_; refine s_ldw ?_; refine s_hl ?_; refine s_mv ?_; refine s_bw ?_; refine s_ow ?_; refine s_iaa ?_)
  refine AtR_go rfl (G_skip (r_store_bw rfl rfl B3 (by simp; omega) rfl) fun w4 e4 => ?_)
  have B4 := e4.blk
  rw [show ((i : Int) / 8).toNat = i / 8 by omega] at B4
  have B5 : Blk w4 b3 241 (0, 0) (ints .u64 (ws (wordsTo l (i + 1)))) := by
   rw [← wordsTo_step l i (by omega) hlt']; exact B4
  (refine AtR_nil (At_inBlock (At_region ?_)); refine s_ad ?_; refine s_mv ?_; refine AtR_nil ?_)
  exact again (i + 1) _ _ ⟨rfl, rfl, rfl, rfl, rfl, trivial⟩ ⟨hlt', B5, K.trans (e4.kp (.inl rfl))⟩ (by omega)
 ·have : i = 128 := by omega
  subst this
  clear again
  have hB2 := B2.kp K (by omega)
  (refine At_seq (At_region ?_); refine s_lss ?_; refine AtR_nil (At_seq ?_); refine At_cond_f rfl ?_; refine At_exit rfl ?_; refine At_seq (At_region ?_))
  refine s_val (x_load_all rfl B3 (by simp)) ?_
  refine AtR_go rfl (G_skip (r_store_all rfl rfl hB2 (by simp) (by simp) (ints_one _ _)) fun w4 e4 => ?_)
  (refine AtR_nil ?_)
  refine At_ret_cell Tryd.func146 rfl rfl e4.blk (by simp) ⟨rfl, ?_⟩
  exact (K2.trans' K (by rintro j rfl; right; omega)).trans' (e4.kp (S := fun j => j = b2) (.inl rfl)) (by rintro j rfl; right; omega)
end Go.Proofs.YtfngacepjcdlnaaDoor
namespace Go.Proofs.YtfngacepjcdlnaaDoor
open Go Go.Kx
def nextV (c : List (BitVec 64)) (t : Nat) : BitVec 64 := c.getD (t % 16) 0 + (small (c.getD ((t + 14) % 16) 0) 19 61 6 + c.getD ((t + 9) % 16) 0 + small (c.getD ((t + 1) % 16) 0) 1 8 7)
def nextC (c : List (BitVec 64)) (t : Nat) : List (BitVec 64) := if t < 16 then c else c.set (t % 16) (nextV c t)
theorem nextC_length (c : List (BitVec 64)) (t : Nat) : (nextC c t).length = c.length := by unfold nextC; split <;> simp
def NextS (b : Nat) (c : List (BitVec 64)) (m : Nat) (w : World) : Prop := ∃ c', Blk w b 241 (0, 0) (ints .u64 (ws c')) ∧ c'.length = 16 ∧ ∀ j, j ≠ m → c'.getD j 0 = c.getD j 0
theorem NextS.load {n : Nat} {env : Env} {w : World} {dst : Option Tmp} {ty : TypeId} {pos : String} {aft : Array Edge} {g : Option (Nat × Bool)} {b m j : Nat} {c : List (BitVec 64)} {x : Operand} (h : NextS b c m w)
  (hx : ev n env x = .pointer (some ⟨b, 0 + j, none⟩)) (hj : j < 16) (hm : j ≠ m) : Run Tryd.prog n env ⟨dst, .load 193 x, ty, pos, aft, g⟩ w (.ok (.value (.int .u64 (uw (c.getD j 0)))) w) := by
 obtain ⟨c', hB, hl, hs⟩ := h
 rw [← hs j hm]
 exact x_load_bw hx hB (by omega)
theorem NextS.kp {b m : Nat} {c : List (BitVec 64)} {w w' : World} (h : NextS b c m w) (hk : Kp No w w') : NextS b c m w' := by
 obtain ⟨c', hB, hl, hs⟩ := h
 exact ⟨c', hB.kp hk id, hl, hs⟩
set_option maxRecDepth 100000 in
set_option maxHeartbeats 2000000 in
theorem next_calls (c : List (BitVec 64)) (t b : Nat) (w : World) (hB : Blk w b 241 (0, 0) (ints .u64 (ws c))) (hc : c.length = 16) (ht : t < 80) :
  Calls Tryd.prog 148 #[.pointer (some ⟨b, 0, none⟩), .int .i64 (t : Int)] w
   fun e w' => e = .returned (.int .u64 (uw ((nextC c t).getD (t % 16) 0))) ∧ Blk w' b 241 (0, 0) (ints .u64 (ws (nextC c t))) ∧ Kp (fun j => j = b) w w' := by
 refine calls_at (n := 47) Tryd.func148 rfl rfl (by simp) ?_
 have e0 : ((t : Int) % 16).toNat = t % 16 := by omega
 by_cases h : t < 16
 ·have en : nextC c t = c := by rw [nextC, if_pos h]
  rw [en]
  (refine At_seq (At_region ?_); refine s_as ?_; refine AtR_nil (At_seq (At_seq (At_region ?_))); refine s_mv ?_; refine s_geq ?_; refine AtR_nil ?_; refine At_cond_f rfl ?_; refine At_skip (At_seq (At_region ?_)); refine s_mv ?_; refine s_mv ?_; refine s_rm ?_; refine s_nc ?_; refine s_iaa ?_; refine s_ldw ?_; refine s_as ?_; refine AtR_nil ?_)
  refine At_ret1 Tryd.func148 rfl (by conv => lhs; whnf) ?_
  rw [e0]
  exact ⟨rfl, hB, Kp.refl _ _⟩
 ·have en : nextC c t = c.set (t % 16) (nextV c t) := by rw [nextC, if_neg h]
  have ev0 : c.getD ((t : Int) % 16).toNat 0 + (small (c.getD (((t : Int) + 14) % 16).toNat 0) 19 61 6 + c.getD (((t : Int) + 9) % 16).toNat 0 + small (c.getD (((t : Int) + 1) % 16).toNat 0) 1 8 7) = nextV c t := by
   rw [e0, show (((t : Int) + 14) % 16).toNat = (t + 14) % 16 by omega, show (((t : Int) + 9) % 16).toNat = (t + 9) % 16 by omega, show (((t : Int) + 1) % 16).toNat = (t + 1) % 16 by omega]; rfl
  (refine At_seq (At_region ?_); refine s_as ?_; refine AtR_nil (At_seq (At_seq (At_region ?_))); refine s_mv ?_; refine s_geq ?_; refine AtR_nil ?_; refine At_cond_t rfl ?_)
  refine At_draw (NextS b c (t % 16)) rfl ?_
  have kd := Kp.drew (S := No) (w := w)
  have hB0 : Blk w.drew b 241 (0, 0) (ints .u64 (ws c)) := hB.kp kd id
  have hS : NextS b c (t % 16) w.drew := ⟨c, hB0, hc, fun _ _ => rfl⟩
  (apply AtH_take 0 rfl (by decide +kernel) (by exact rfl); (focus (intro wx hx; skip; exact x_move (by conv => lhs; whnf))); (focus (exact hS)))
  (apply AtH_take 1 rfl (by decide +kernel) (by exact rfl); (focus (intro wx hx; skip; exact x_move (by conv => lhs; whnf))); (focus (exact hS)))
  (apply AtH_take 2 rfl (by decide +kernel) (by exact rfl); (focus (intro wx hx; skip; exact x_remI rfl rfl (by omega) (by omega))); (focus (exact hS)))
  (apply AtH_take 3 rfl (by decide +kernel) (by exact rfl); (focus (intro wx hx; skip; exact x_nilCheck rfl)); (focus (exact hS)))
  (apply AtH_take 4 rfl (by decide +kernel) (by exact rfl); (focus (intro wx hx; skip; exact x_indexAddrI rfl rfl (by omega) (by omega))); (focus (exact hS)))
  (apply AtH_take 6 rfl (by decide +kernel) (by exact rfl); (focus (intro wx hx; skip; exact x_move (by conv => lhs; whnf))); (focus (exact hS)))
  (apply AtH_take 7 rfl (by decide +kernel) (by exact rfl); (focus (intro wx hx; skip; exact x_move (by conv => lhs; whnf))); (focus (exact hS)))
  (apply AtH_take 8 rfl (by decide +kernel) (by exact rfl); (focus (intro wx hx; skip; exact x_add64 rfl rfl (by omega) (by omega))); (focus (exact hS)))
  (apply AtH_take 9 rfl (by decide +kernel) (by exact rfl); (focus (intro wx hx; skip; exact x_remI rfl rfl (by omega) (by omega))); (focus (exact hS)))
  (apply AtH_take 10 rfl (by decide +kernel) (by exact rfl); (focus (intro wx hx; skip; exact x_nilCheck rfl)); (focus (exact hS)))
  (apply AtH_take 11 rfl (by decide +kernel) (by exact rfl); (focus (intro wx hx; skip; exact x_indexAddrI rfl rfl (by omega) (by omega))); (focus (exact hS)))
  (apply AtH_take 14 rfl (by decide +kernel) (by exact rfl); (focus (intro wx hx; skip; exact x_move (by conv => lhs; whnf))); (focus (exact hS)))
  (apply AtH_take 15 rfl (by decide +kernel) (by exact rfl); (focus (intro wx hx; skip; exact x_move (by conv => lhs; whnf))); (focus (exact hS)))
  (apply AtH_take 16 rfl (by decide +kernel) (by exact rfl); (focus (intro wx hx; skip; exact x_add64 rfl rfl (by omega) (by omega))); (focus (exact hS)))
  (apply AtH_take 17 rfl (by decide +kernel) (by exact rfl); (focus (intro wx hx; skip; exact x_remI rfl rfl (by omega) (by omega))); (focus (exact hS)))
  (apply AtH_take 18 rfl (by decide +kernel) (by exact rfl); (focus (intro wx hx; skip; exact x_nilCheck rfl)); (focus (exact hS)))
  (apply AtH_take 19 rfl (by decide +kernel) (by exact rfl); (focus (intro wx hx; skip; exact x_indexAddrI rfl rfl (by omega) (by omega))); (focus (exact hS)))
  (apply AtH_take 22 rfl (by decide +kernel) (by exact rfl); (focus (intro wx hx; skip; exact x_move (by conv => lhs; whnf))); (focus (exact hS)))
  (apply AtH_take 23 rfl (by decide +kernel) (by exact rfl); (focus (intro wx hx; skip; exact x_move (by conv => lhs; whnf))); (focus (exact hS)))
  (apply AtH_take 24 rfl (by decide +kernel) (by exact rfl); (focus (intro wx hx; skip; exact x_add64 rfl rfl (by omega) (by omega))); (focus (exact hS)))
  (apply AtH_take 25 rfl (by decide +kernel) (by exact rfl); (focus (intro wx hx; skip; exact x_remI rfl rfl (by omega) (by omega))); (focus (exact hS)))
  (apply AtH_take 26 rfl (by decide +kernel) (by exact rfl); (focus (intro wx hx; skip; exact x_nilCheck rfl)); (focus (exact hS)))
  (apply AtH_take 27 rfl (by decide +kernel) (by exact rfl); (focus (intro wx hx; skip; exact x_indexAddrI rfl rfl (by omega) (by omega))); (focus (exact hS)))
  (apply AtH_take 32 rfl (by decide +kernel) (by exact rfl); (focus (intro wx hx; skip; exact x_nilCheck rfl)); (focus (exact hS)))
  refine AtH_take 12 rfl (by decide +kernel) rfl (fun wx hx => hx.load rfl (by omega) (by omega)) hS ?_
  refine AtH_take 20 rfl (by decide +kernel) rfl (fun wx hx => hx.load rfl (by omega) (by omega)) hS ?_
  refine AtH_take 28 rfl (by decide +kernel) rfl (fun wx hx => hx.load rfl (by omega) (by omega)) hS ?_
  refine AtH_pairC 5 13 rfl rfl (by decide +kernel) rfl rfl (x_load_bw rfl hB0 (by omega)) hS x_call (small_calls _ 19 61 6 _ (by omega) (by omega) (by omega) (by omega)) ?_ ?_
  ·refine AtH_call 13 rfl (by decide +kernel) (by exact rfl) x_call  (small_calls _ 19 61 6 _ (by omega) (by omega) (by omega) (by omega)) ?_
   rintro _ w2 ⟨rfl, k2⟩
   replace hS := hS.kp k2
   replace hB0 := hB0.kp k2 id
   refine ⟨_, rfl, hS, ?_⟩
   (apply AtH_take 21 rfl (by decide +kernel) (by exact rfl); (focus (intro wx hx; skip; exact x_addW rfl rfl)); (focus (exact hS)))
   refine AtH_call 29 rfl (by decide +kernel) (by exact rfl) x_call  (small_calls _ 1 8 7 _ (by omega) (by omega) (by omega) (by omega)) ?_
   rintro _ w3 ⟨rfl, k3⟩
   replace hS := hS.kp k3
   replace hB0 := hB0.kp k3 id
   refine ⟨_, rfl, hS, ?_⟩
   (apply AtH_take 30 rfl (by decide +kernel) (by exact rfl); (focus (intro wx hx; skip; exact x_addW rfl rfl)); (focus (exact hS)))
   (apply AtH_take 31 rfl (by decide +kernel) (by exact rfl); (focus (intro wx hx; skip; exact x_addW rfl rfl)); (focus (exact hS)))
   (apply AtH_take 33 rfl (by decide +kernel) (by exact rfl); (focus (intro wx hx; skip; exact x_indexAddrI rfl rfl (by omega) (by omega))); (focus (exact hS)))
   rw [ev0]
   refine H_skip 34 rfl (by decide +kernel) rfl (r_store_bw rfl rfl hB0 (by omega) rfl) fun w4 e4 => ?_
   have hB4 : Blk w4 b 241 (0, 0) (ints .u64 (ws (nextC c t))) := by
    have := e4.blk
    rw [e0, ← en] at this; exact this
   refine ⟨⟨_, hB4, by rw [nextC_length]; exact hc, fun j hj => by rw [en]; simp [List.getD, Ne.symm hj]⟩, AtH_done (by decide +kernel) ?_⟩
   have hl4 : (nextC c t).length = 16 := by rw [nextC_length]; exact hc
   (refine At_seq (At_region ?_); refine s_mv ?_; refine s_mv ?_; refine s_rm ?_; refine s_nc ?_; refine s_iaa ?_; refine s_ldw ?_; refine s_as ?_; refine AtR_nil ?_)
   refine At_ret1 Tryd.func148 rfl (by conv => lhs; whnf) ?_
   rw [e0]
   exact ⟨rfl, hB4, (((kd.trans k2).trans k3).mono fun _ c => c.elim).trans (e4.kp (.inl rfl))⟩
  ·rintro _ w2 ⟨rfl, k2⟩
   replace hS := hS.kp k2
   replace hB0 := hB0.kp k2 id
   refine ⟨_, rfl, hS, ?_⟩
   (apply AtH_take 21 rfl (by decide +kernel) (by exact rfl); (focus (intro wx hx; skip; exact x_addW rfl rfl)); (focus (exact hS)))
   refine AtH_pairC 5 29 rfl rfl (by decide +kernel) rfl rfl (x_load_bw rfl hB0 (by omega)) hS x_call (small_calls _ 1 8 7 _ (by omega) (by omega) (by omega) (by omega)) ?_ ?_
   ·refine AtH_call 29 rfl (by decide +kernel) (by exact rfl) x_call  (small_calls _ 1 8 7 _ (by omega) (by omega) (by omega) (by omega)) ?_
    rintro _ w3 ⟨rfl, k3⟩
    replace hS := hS.kp k3
    replace hB0 := hB0.kp k3 id
    refine ⟨_, rfl, hS, ?_⟩
    (apply AtH_take 30 rfl (by decide +kernel) (by exact rfl); (focus (intro wx hx; skip; exact x_addW rfl rfl)); (focus (exact hS)))
    (apply AtH_take 31 rfl (by decide +kernel) (by exact rfl); (focus (intro wx hx; skip; exact x_addW rfl rfl)); (focus (exact hS)))
    (apply AtH_take 33 rfl (by decide +kernel) (by exact rfl); (focus (intro wx hx; skip; exact x_indexAddrI rfl rfl (by omega) (by omega))); (focus (exact hS)))
    rw [ev0]
    refine H_skip 34 rfl (by decide +kernel) rfl (r_store_bw rfl rfl hB0 (by omega) rfl) fun w4 e4 => ?_
    have hB4 : Blk w4 b 241 (0, 0) (ints .u64 (ws (nextC c t))) := by
     have := e4.blk
     rw [e0, ← en] at this; exact this
    refine ⟨⟨_, hB4, by rw [nextC_length]; exact hc, fun j hj => by rw [en]; simp [List.getD, Ne.symm hj]⟩, AtH_done (by decide +kernel) ?_⟩
    have hl4 : (nextC c t).length = 16 := by rw [nextC_length]; exact hc
    (refine At_seq (At_region ?_); refine s_mv ?_; refine s_mv ?_; refine s_rm ?_; refine s_nc ?_; refine s_iaa ?_; refine s_ldw ?_; refine s_as ?_; refine AtR_nil ?_)
    refine At_ret1 Tryd.func148 rfl (by conv => lhs; whnf) ?_
    rw [e0]
    exact ⟨rfl, hB4, (((kd.trans k2).trans k3).mono fun _ c => c.elim).trans (e4.kp (.inl rfl))⟩
   ·rintro _ w3 ⟨rfl, k3⟩
    replace hS := hS.kp k3
    replace hB0 := hB0.kp k3 id
    refine ⟨_, rfl, hS, ?_⟩
    (apply AtH_take 30 rfl (by decide +kernel) (by exact rfl); (focus (intro wx hx; skip; exact x_addW rfl rfl)); (focus (exact hS)))
    refine AtH_val 5 rfl (by decide +kernel) rfl (x_load_bw rfl hB0 (by omega)) hS ?_
    (apply AtH_take 31 rfl (by decide +kernel) (by exact rfl); (focus (intro wx hx; skip; exact x_addW rfl rfl)); (focus (exact hS)))
    (apply AtH_take 33 rfl (by decide +kernel) (by exact rfl); (focus (intro wx hx; skip; exact x_indexAddrI rfl rfl (by omega) (by omega))); (focus (exact hS)))
    rw [ev0]
    refine H_skip 34 rfl (by decide +kernel) rfl (r_store_bw rfl rfl hB0 (by omega) rfl) fun w4 e4 => ?_
    have hB4 : Blk w4 b 241 (0, 0) (ints .u64 (ws (nextC c t))) := by
     have := e4.blk
     rw [e0, ← en] at this; exact this
    refine ⟨⟨_, hB4, by rw [nextC_length]; exact hc, fun j hj => by rw [en]; simp [List.getD, Ne.symm hj]⟩, AtH_done (by decide +kernel) ?_⟩
    have hl4 : (nextC c t).length = 16 := by rw [nextC_length]; exact hc
    (refine At_seq (At_region ?_); refine s_mv ?_; refine s_mv ?_; refine s_rm ?_; refine s_nc ?_; refine s_iaa ?_; refine s_ldw ?_; refine s_as ?_; refine AtR_nil ?_)
    refine At_ret1 Tryd.func148 rfl (by conv => lhs; whnf) ?_
    rw [e0]
    exact ⟨rfl, hB4, (((kd.trans k2).trans k3).mono fun _ c => c.elim).trans (e4.kp (.inl rfl))⟩
end Go.Proofs.YtfngacepjcdlnaaDoor
namespace Go.Proofs.YtfngacepjcdlnaaDoor
open Go Go.Kx
theorem getDw_lt {l : List (BitVec 64)} {i : Nat} (h : i < l.length) : l.getD i 0 = l[i] := by simp [List.getD, h]
theorem getDw_set (l : List (BitVec 64)) (i j : Nat) (v : BitVec 64) (h : i < l.length) : (l.set i v).getD j 0 = if j = i then v else l.getD j 0 := by
 by_cases e : j = i
 ·subst e; simp [List.getD, h]
 ·rw [if_neg e]; simp [List.getD, Ne.symm e]
def kSha : List (BitVec 64) := [
 0x428a2f98d728ae22, 0x7137449123ef65cd, 0xb5c0fbcfec4d3b2f, 0xe9b5dba58189dbbc,
 0x3956c25bf348b538, 0x59f111f1b605d019, 0x923f82a4af194f9b, 0xab1c5ed5da6d8118,
 0xd807aa98a3030242, 0x12835b0145706fbe, 0x243185be4ee4b28c, 0x550c7dc3d5ffb4e2,
 0x72be5d74f27b896f, 0x80deb1fe3b1696b1, 0x9bdc06a725c71235, 0xc19bf174cf692694,
 0xe49b69c19ef14ad2, 0xefbe4786384f25e3, 0x0fc19dc68b8cd5b5, 0x240ca1cc77ac9c65,
 0x2de92c6f592b0275, 0x4a7484aa6ea6e483, 0x5cb0a9dcbd41fbd4, 0x76f988da831153b5,
 0x983e5152ee66dfab, 0xa831c66d2db43210, 0xb00327c898fb213f, 0xbf597fc7beef0ee4,
 0xc6e00bf33da88fc2, 0xd5a79147930aa725, 0x06ca6351e003826f, 0x142929670a0e6e70,
 0x27b70a8546d22ffc, 0x2e1b21385c26c926, 0x4d2c6dfc5ac42aed, 0x53380d139d95b3df,
 0x650a73548baf63de, 0x766a0abb3c77b2a8, 0x81c2c92e47edaee6, 0x92722c851482353b,
 0xa2bfe8a14cf10364, 0xa81a664bbc423001, 0xc24b8b70d0f89791, 0xc76c51a30654be30,
 0xd192e819d6ef5218, 0xd69906245565a910, 0xf40e35855771202a, 0x106aa07032bbd1b8,
 0x19a4c116b8d2d0c8, 0x1e376c085141ab53, 0x2748774cdf8eeb99, 0x34b0bcb5e19b48a8,
 0x391c0cb3c5c95a63, 0x4ed8aa4ae3418acb, 0x5b9cca4f7763e373, 0x682e6ff3d6b2b8a3,
 0x748f82ee5defb2fc, 0x78a5636f43172f60, 0x84c87814a1f0ab72, 0x8cc702081a6439ec,
 0x90befffa23631e28, 0xa4506cebde82bde9, 0xbef9a3f7b2c67915, 0xc67178f2e372532b,
 0xca273eceea26619c, 0xd186b8c721c0c207, 0xeada7dd6cde0eb1e, 0xf57d4f7fee6ed178,
 0x06f067aa72176fba, 0x0a637dc5a2c898a6, 0x113f9804bef90dae, 0x1b710b35131c471b,
 0x28db77f523047d84, 0x32caab7b40c72493, 0x3c9ebe0a15c9bebc, 0x431d67c49c100d4c,
 0x4cc5d4becb3e42b6, 0x597f299cfc657e2a, 0x5fcb6fab3ad6faec, 0x6c44198c4a475817]
theorem kSha_length : kSha.length = 80 := rfl
def rnd (k wt : BitVec 64) : List (BitVec 64) → List (BitVec 64)
 | [a, b, c, d, e, f, g, h] =>
  [(h + great e 14 18 41 + (g ^^^ (e &&& (f ^^^ g))) + k + wt) + (great a 28 34 39 + (a &&& b ||| ((a ||| b) &&& c))), a, b, c, d + (h + great e 14 18 41 + (g ^^^ (e &&& (f ^^^ g))) + k + wt), e, f, g]
 | X => X
def iter (h : List (BitVec 64)) (l : List UInt8) : Nat → List (BitVec 64) × List (BitVec 64)
 | 0 => (h, wordsOf l)
 | t + 1 => (rnd (kSha.getD t 0) ((nextC (iter h l t).2 t).getD (t % 16) 0) (iter h l t).1, nextC (iter h l t).2 t)
def takeB (h : List (BitVec 64)) (l : List UInt8) : List (BitVec 64) := List.zipWith (· + ·) h (iter h l 80).1
theorem eight {X : List (BitVec 64)} (h : X.length = 8) : ∃ a b c d e f g i, X = [a, b, c, d, e, f, g, i] := by
 match X, h with
 | [a, b, c, d, e, f, g, i], _ => exact ⟨a, b, c, d, e, f, g, i, rfl⟩
theorem rnd_length {k wt : BitVec 64} {X : List (BitVec 64)} (h : X.length = 8) : (rnd k wt X).length = 8 := by
 obtain ⟨a, b, c, d, e, f, g, i, rfl⟩ := eight h; rfl
theorem iter_length {h : List (BitVec 64)} {l : List UInt8} (hh : h.length = 8) : ∀ t, (iter h l t).1.length = 8 ∧ (iter h l t).2.length = 16
 | 0 => ⟨hh, wordsTo_length _ _⟩
 | t + 1 => ⟨rnd_length (iter_length hh t).1, by rw [iter, nextC_length]; exact (iter_length hh t).2⟩
theorem takeB_length {h : List (BitVec 64)} {l : List UInt8} (hh : h.length = 8) : (takeB h l).length = 8 := by
 simp [takeB, hh, (iter_length (l := l) hh 80).1]
theorem x_index_k {n : Nat} {env : Env} {w : World} {dst : Option Tmp} {ty : TypeId} {pos : String} {aft : Array Edge} {g : Option (Nat × Bool)} {x ix : Operand} {t : Nat}
  (hx : ev n env x = .agg (ints .u64 (ws kSha)).toArray) (hi : ev n env ix = .int .i64 (t : Int)) (ht : t < 80) :
  Run Tryd.prog n env ⟨dst, .index 243 x ix, ty, pos, aft, g⟩ w (.ok (.value (.int .u64 (uw (kSha.getD t 0)))) w) := by
 rw [← ws_get (by rw [kSha_length]; exact ht)]
 exact x_index_arr hx hi ht (ints_get _ _ _ (by rw [ws_length, kSha_length]; exact ht))
attribute [irreducible] kSha
set_option maxRecDepth 100000 in
set_option maxHeartbeats 4000000 in
theorem take512_calls (h : List (BitVec 64)) (l : List UInt8) (bv : Nat) (a : Option Addr) (len cap : Nat) (w : World) {fz : Nat × Nat} (hh : h.length = 8) (hV : Blk w bv 225 (0, 0) (ints .u64 (ws h))) (hs : Sl w .u8 a len cap (bs8 l)) (hl : 128 ≤ len)
  (hG : Blk w 1 243 fz (ints .u64 (ws kSha))) :
  Calls Tryd.prog 137 #[.pointer (some ⟨bv, 0, none⟩), .slice a len cap] w
   fun e w' => e = .returned (.tuple #[]) ∧ Blk w' bv 225 (0, 0) (ints .u64 (ws (takeB h l))) ∧ Kp (fun j => j = bv) w w' := by
 refine calls_at (n := 91) Tryd.func137 rfl rfl (by simp) ?_
 have lv := hV.lt
 (refine At_seq (At_region ?_); refine s_mv ?_)
 refine s_call x_call (words_calls l a len cap _ hs hl) ?_
 rintro _ w1 ⟨rfl, k1⟩
 refine ⟨_, rfl, ?_⟩
 have z1 := k1.size
 refine AtR_go rfl (AtG_alloc fun bw w2 hbw e2 => ?_)
 have z2 := e2.size
 have l2 := e2.blk.lt
 refine AtR_go rfl (G_skip (r_store_all (s := 16) rfl rfl e2.blk (by simp [wordsOf]) rfl (ints_one _ _)) fun w3 e3 => ?_)
 have BW : Blk w3 bw 241 (0, 0) (ints .u64 (ws (wordsOf l))) := e3.blk
 have z3 := e3.size
 have K3 : Kp No w w3 := (k1.trans (e2.kp (.inr (by omega)))).trans' (e3.kp (S := fun j => j = bw) (.inl rfl)) (by rintro j rfl; right; omega)
 have V3 := hV.kp K3 id
 have G3 := hG.kp K3 id
 clear e2 e3 k1 hV hG
 (refine AtR_nil (At_seq (At_region ?_)); refine s_mv ?_; refine s_nc ?_)
 refine s_val (x_load_all rfl V3 (by simp [hh])) ?_
 refine AtR_go rfl (AtG_alloc fun bx w4 hbx e4 => ?_)
 have z4 := e4.size
 have l4 := e4.blk.lt
 refine AtR_go rfl (G_skip (r_store_all (s := 8) rfl rfl e4.blk (by simp [hh]) rfl (ints_one _ _)) fun w5 e5 => ?_)
 have BX : Blk w5 bx 225 (0, 0) (ints .u64 (ws h)) := e5.blk
 have z5 := e5.size
 have K5 : Kp No w3 w5 := (e4.kp (S := No) (.inr (by omega))).trans' (e5.kp (S := fun j => j = bx) (.inl rfl)) (by rintro j rfl; right; omega)
 have V5 := V3.kp K5 id
 have G5 := G3.kp K5 id
 have W5 := BW.kp K5 id
 have K05 := K3.trans K5
 have lx5 := BX.lt
 clear e4 e5 V3 G3 BW K3 K5
 (refine AtR_nil (At_seq (At_seq ?_)); refine At_region ?_)
 refine s_val (x_load_all rfl G5 (by simp [kSha_length])) ?_
 (refine s_mv ?_; refine AtR_nil (At_block ?_))
 refine At_while (fun t : Nat => [(0, .pointer (some ⟨bv, 0, none⟩)), (4, .pointer (some ⟨bw, 0, none⟩)), (5, .pointer (some ⟨bx, 0, none⟩)), (18, .agg (ints .u64 (ws kSha)).toArray), (19, .int .i64 (t : Int))])
  (fun t w' => t ≤ 80 ∧ Blk w' bx 225 (0, 0) (ints .u64 (ws (iter h l t).1)) ∧ Blk w' bw 241 (0, 0) (ints .u64 (ws (iter h l t).2)) ∧ Kp (fun j => j = bx ∨ j = bw) w5 w') (fun t => 80 - t) 0 ⟨rfl, rfl, rfl, rfl, rfl, trivial⟩
  ⟨by omega, BX, W5, Kp.refl _ _⟩ ?_
 clear BX W5 G5
 rintro t w6 junk ⟨ht, BX, BW, K⟩ again
 by_cases hlt : t < 80
 ·obtain ⟨h8, h16⟩ := iter_length (h := h) (l := l) hh t
  generalize hit : iter h l t = st at BX BW h8 h16
  obtain ⟨X, c⟩ := st
  simp only at BX BW h8 h16
  obtain ⟨xa, xb, xc, xd, xe, xf, xg, xh, rfl⟩ := eight h8
  (refine At_seq (At_region ?_); refine s_lss ?_; refine AtR_nil (At_seq ?_); refine At_cond_t rfl ?_; refine At_skip (At_seq (At_block (At_seq (At_region ?_)))); refine s_mv ?_)
  refine s_val (x_index_k rfl rfl hlt) ?_
  (refine s_as ?_; refine s_as ?_; refine AtR_nil (At_seq ?_))
  have kd5 := Kp.drew (S := No) (w := w6)
  have hne : bw ≠ bx := by omega
  refine At_draw (fun w' => Blk w' bx 225 (0, 0) (ints .u64 (ws [xa, xb, xc, xd, xe, xf, xg, xh]))) rfl ?_
  have hS : Blk w6.drew bx 225 (0, 0) (ints .u64 (ws [xa, xb, xc, xd, xe, xf, xg, xh])) := BX.kp kd5 id
  (apply AtH_take 0 rfl (by decide +kernel) (by exact rfl); (focus (intro wx hx; skip; exact x_indexAddrI rfl rfl (by omega) (by omega))); (focus (exact hS)))
  (apply AtH_take 1 rfl (by decide +kernel) (by exact rfl); (focus (intro wx hx; skip; exact x_load1 rfl (by assumption) rfl)); (focus (exact hS)))
  (apply AtH_take 2 rfl (by decide +kernel) (by exact rfl); (focus (intro wx hx; skip; exact x_indexAddrI rfl rfl (by omega) (by omega))); (focus (exact hS)))
  (apply AtH_take 3 rfl (by decide +kernel) (by exact rfl); (focus (intro wx hx; skip; exact x_load1 rfl (by assumption) rfl)); (focus (exact hS)))
  (apply AtH_take 4 rfl (by decide +kernel) (by exact rfl); (focus (intro wx hx; skip; exact x_assign (by conv => lhs; whnf))); (focus (exact hS)))
  (apply AtH_take 5 rfl (by decide +kernel) (by exact rfl); (focus (intro wx hx; skip; exact x_assign (by conv => lhs; whnf))); (focus (exact hS)))
  refine AtH_done (by decide +kernel) ?_
  (refine At_seq ?_)
  refine At_draw (fun w' => Blk w' bx 225 (0, 0) (ints .u64 (ws [xa, xb, xc, xd, xe, xf, xg, xh]))) rfl ?_
  have kd6 := kd5.trans (Kp.drew (S := No) (w := w6.drew))
  replace hS : Blk w6.drew.drew bx 225 (0, 0) (ints .u64 (ws [xa, xb, xc, xd, xe, xf, xg, xh])) := BX.kp kd6 id
  have BW6 := BW.kp kd6 id
  (apply AtH_take 0 rfl (by decide +kernel) (by exact rfl); (focus (intro wx hx; skip; exact x_indexAddrI rfl rfl (by omega) (by omega))); (focus (exact hS)))
  (apply AtH_take 1 rfl (by decide +kernel) (by exact rfl); (focus (intro wx hx; skip; exact x_load1 rfl (by assumption) rfl)); (focus (exact hS)))
  (apply AtH_take 2 rfl (by decide +kernel) (by exact rfl); (focus (intro wx hx; skip; exact x_move (by conv => lhs; whnf))); (focus (exact hS)))
  (apply AtH_take 5 rfl (by decide +kernel) (by exact rfl); (focus (intro wx hx; skip; exact x_indexAddrI rfl rfl (by omega) (by omega))); (focus (exact hS)))
  (apply AtH_take 6 rfl (by decide +kernel) (by exact rfl); (focus (intro wx hx; skip; exact x_load1 rfl (by assumption) rfl)); (focus (exact hS)))
  (apply AtH_take 7 rfl (by decide +kernel) (by exact rfl); (focus (intro wx hx; skip; exact x_move (by conv => lhs; whnf))); (focus (exact hS)))
  (apply AtH_take 8 rfl (by decide +kernel) (by exact rfl); (focus (intro wx hx; skip; exact x_indexAddrI rfl rfl (by omega) (by omega))); (focus (exact hS)))
  (apply AtH_take 9 rfl (by decide +kernel) (by exact rfl); (focus (intro wx hx; skip; exact x_load1 rfl (by assumption) rfl)); (focus (exact hS)))
  (apply AtH_take 10 rfl (by decide +kernel) (by exact rfl); (focus (intro wx hx; skip; exact x_indexAddrI rfl rfl (by omega) (by omega))); (focus (exact hS)))
  (apply AtH_take 11 rfl (by decide +kernel) (by exact rfl); (focus (intro wx hx; skip; exact x_load1 rfl (by assumption) rfl)); (focus (exact hS)))
  (apply AtH_take 12 rfl (by decide +kernel) (by exact rfl); (focus (intro wx hx; skip; exact x_xorW rfl rfl)); (focus (exact hS)))
  (apply AtH_take 13 rfl (by decide +kernel) (by exact rfl); (focus (intro wx hx; skip; exact x_andW rfl rfl)); (focus (exact hS)))
  (apply AtH_take 14 rfl (by decide +kernel) (by exact rfl); (focus (intro wx hx; skip; exact x_xorW rfl rfl)); (focus (exact hS)))
  (apply AtH_take 16 rfl (by decide +kernel) (by exact rfl); (focus (intro wx hx; skip; exact x_move (by conv => lhs; whnf))); (focus (exact hS)))
  (apply AtH_take 18 rfl (by decide +kernel) (by exact rfl); (focus (intro wx hx; skip; exact x_move (by conv => lhs; whnf))); (focus (exact hS)))
  refine AtH_call 3 rfl (by decide +kernel) (by exact rfl) x_call  (great_calls xe 14 18 41 _ (by omega) (by omega) (by omega) (by omega) (by omega) (by omega)) ?_
  rintro _ _ ⟨rfl, rfl⟩
  refine ⟨_, rfl, hS, ?_⟩
  (apply AtH_take 4 rfl (by decide +kernel) (by exact rfl); (focus (intro wx hx; skip; exact x_addW rfl rfl)); (focus (exact hS)))
  (apply AtH_take 15 rfl (by decide +kernel) (by exact rfl); (focus (intro wx hx; skip; exact x_addW rfl rfl)); (focus (exact hS)))
  (apply AtH_take 17 rfl (by decide +kernel) (by exact rfl); (focus (intro wx hx; skip; exact x_addW rfl rfl)); (focus (exact hS)))
  refine AtH_call 19 rfl (by decide +kernel) (by exact rfl) x_call  (next_calls c t bw _ BW6 h16 hlt) ?_
  rintro _ w7 ⟨rfl, BW7, k7⟩
  replace hS := hS.kp k7 (fun e => hne e.symm)
  refine ⟨_, rfl, hS, ?_⟩
  (apply AtH_take 20 rfl (by decide +kernel) (by exact rfl); (focus (intro wx hx; skip; exact x_addW rfl rfl)); (focus (exact hS)))
  (apply AtH_take 21 rfl (by decide +kernel) (by exact rfl); (focus (intro wx hx; skip; exact x_assign (by conv => lhs; whnf))); (focus (exact hS)))
  refine AtH_done (by decide +kernel) ?_
  (refine At_seq ?_)
  refine At_draw (fun w' => Blk w' bx 225 (0, 0) (ints .u64 (ws [xa, xb, xc, xd, xe, xf, xg, xh]))) rfl ?_
  have kd7 := Kp.drew (S := No) (w := w7)
  replace hS : Blk w7.drew bx 225 (0, 0) (ints .u64 (ws [xa, xb, xc, xd, xe, xf, xg, xh])) := hS.kp kd7 id
  (apply AtH_take 0 rfl (by decide +kernel) (by exact rfl); (focus (intro wx hx; skip; exact x_move (by conv => lhs; whnf))); (focus (exact hS)))
  (apply AtH_take 2 rfl (by decide +kernel) (by exact rfl); (focus (intro wx hx; skip; exact x_move (by conv => lhs; whnf))); (focus (exact hS)))
  (apply AtH_take 3 rfl (by decide +kernel) (by exact rfl); (focus (intro wx hx; skip; exact x_indexAddrI rfl rfl (by omega) (by omega))); (focus (exact hS)))
  (apply AtH_take 4 rfl (by decide +kernel) (by exact rfl); (focus (intro wx hx; skip; exact x_load1 rfl (by assumption) rfl)); (focus (exact hS)))
  (apply AtH_take 5 rfl (by decide +kernel) (by exact rfl); (focus (intro wx hx; skip; exact x_andW rfl rfl)); (focus (exact hS)))
  (apply AtH_take 6 rfl (by decide +kernel) (by exact rfl); (focus (intro wx hx; skip; exact x_move (by conv => lhs; whnf))); (focus (exact hS)))
  (apply AtH_take 7 rfl (by decide +kernel) (by exact rfl); (focus (intro wx hx; skip; exact x_indexAddrI rfl rfl (by omega) (by omega))); (focus (exact hS)))
  (apply AtH_take 8 rfl (by decide +kernel) (by exact rfl); (focus (intro wx hx; skip; exact x_load1 rfl (by assumption) rfl)); (focus (exact hS)))
  (apply AtH_take 9 rfl (by decide +kernel) (by exact rfl); (focus (intro wx hx; skip; exact x_orW rfl rfl)); (focus (exact hS)))
  (apply AtH_take 10 rfl (by decide +kernel) (by exact rfl); (focus (intro wx hx; skip; exact x_indexAddrI rfl rfl (by omega) (by omega))); (focus (exact hS)))
  (apply AtH_take 11 rfl (by decide +kernel) (by exact rfl); (focus (intro wx hx; skip; exact x_load1 rfl (by assumption) rfl)); (focus (exact hS)))
  (apply AtH_take 12 rfl (by decide +kernel) (by exact rfl); (focus (intro wx hx; skip; exact x_andW rfl rfl)); (focus (exact hS)))
  (apply AtH_take 13 rfl (by decide +kernel) (by exact rfl); (focus (intro wx hx; skip; exact x_orW rfl rfl)); (focus (exact hS)))
  refine AtH_call 1 rfl (by decide +kernel) (by exact rfl) x_call  (great_calls xa 28 34 39 _ (by omega) (by omega) (by omega) (by omega) (by omega) (by omega)) ?_
  rintro _ _ ⟨rfl, rfl⟩
  refine ⟨_, rfl, hS, ?_⟩
  (apply AtH_take 14 rfl (by decide +kernel) (by exact rfl); (focus (intro wx hx; skip; exact x_addW rfl rfl)); (focus (exact hS)))
  (apply AtH_take 15 rfl (by decide +kernel) (by exact rfl); (focus (intro wx hx; skip; exact x_assign (by conv => lhs; whnf))); (focus (exact hS)))
  refine AtH_done (by decide +kernel) ?_
  (refine At_seq ?_)
  refine At_draw (fun _ => True) rfl ?_
  have kd8 := Kp.drew (S := No) (w := w7.drew)
  have BX8 : Blk w7.drew.drew bx 225 (0, 0) (ints .u64 (ws [xa, xb, xc, xd, xe, xf, xg, xh])) := hS.kp kd8 id
  clear hS
  have hS : True := trivial
  refine AtH_take 0 rfl (by decide +kernel) rfl (fun wx hx => x_slice_arr_l (m := 8) (j := 1) rfl rfl (by omega)) hS ?_
  refine AtH_take 1 rfl (by decide +kernel) rfl (fun wx hx => x_slice_arr_h (m := 8) (j := 7) rfl rfl (by omega)) hS ?_
  have hseg : Seg w7.drew.drew bx 0 (ints .u64 (ws [xa, xb, xc, xd, xe, xf, xg])) := fun j hj => by
   rw [Nat.zero_add, BX8.cell]
   have : ints .u64 (ws [xa, xb, xc, xd, xe, xf, xg, xh]) = ints .u64 (ws [xa, xb, xc, xd, xe, xf, xg]) ++ ints .u64 (ws [xh]) := rfl
   rw [this, List.getElem?_append_left hj]
  refine H_val 2 rfl (by decide +kernel) rfl (r_copy (vs := ints .u64 (ws [xa, xb, xc, xd, xe, xf, xg])) rfl rfl rfl BX8 (Nat.le_refl 8) hseg (ints_one _ _)) ?_
  rintro _ w9 ⟨rfl, e9⟩
  refine ⟨trivial, AtH_done (by decide +kernel) ?_⟩
  have BX9 : Blk w9 bx 225 (0, 0) (ints .u64 (ws [xa, xa, xb, xc, xd, xe, xf, xg])) := e9.blk
  have BW9 := (BW7.kp (kd7.trans kd8) id).kp (e9.kp (S := fun j => j = bx) (.inl rfl)) hne
  have K9 : Kp (fun j => j = bx ∨ j = bw) w6 w9 := (((kd6.mono fun _ c => c.elim).trans (k7.mono fun _ e => .inr e)).trans ((kd7.trans kd8).mono fun _ c => c.elim)).trans (e9.kp (.inl (.inl rfl)))
  clear e9 BX8 hseg BW7 BW6 BX kd5 kd6 kd7 kd8 k7
  (refine At_seq (At_region ?_); refine s_mv ?_; refine s_mv ?_; refine s_dw ?_; refine s_iaa ?_)
  refine AtR_go rfl (G_skip (r_store_bw rfl rfl BX9 (by simp) rfl) fun w10 e10 => ?_)
  have BX10 : Blk w10 bx 225 (0, 0) (ints .u64 (ws [(xh + great xe 14 18 41 + (xg ^^^ (xe &&& (xf ^^^ xg))) + kSha.getD t 0 + (nextC c t).getD (t % 16) 0) + (great xa 28 34 39 + (xa &&& xb ||| ((xa ||| xb) &&& xc))), xa, xb, xc, xd, xe, xf, xg])) := e10.blk
  have K10 := K9.trans (e10.kp (.inl (.inl rfl)))
  have BW10 := BW9.kp (e10.kp (S := fun j => j = bx) (.inl rfl)) hne
  clear e10 BX9 K9 BW9
  obtain ⟨X10, hX10⟩ : ∃ X, X = [(xh + great xe 14 18 41 + (xg ^^^ (xe &&& (xf ^^^ xg))) + kSha.getD t 0 + (nextC c t).getD (t % 16) 0) + (great xa 28 34 39 + (xa &&& xb ||| ((xa ||| xb) &&& xc))), xa, xb, xc, xd, xe, xf, xg] := ⟨_, rfl⟩
  rw [← hX10] at BX10
  have hl10 : X10.length = 8 := by rw [hX10]; rfl
  (refine AtR_nil (At_region ?_); refine s_iaa ?_; refine s_ldw ?_; refine s_mv ?_; refine s_dw ?_; refine s_iaa ?_)
  refine AtR_go rfl (G_skip (r_store_bw rfl rfl BX10 (by omega) rfl) fun w11 e11 => ?_)
  subst hX10
  have BX11 : Blk w11 bx 225 (0, 0) (ints .u64 (ws (rnd (kSha.getD t 0) ((nextC c t).getD (t % 16) 0) [xa, xb, xc, xd, xe, xf, xg, xh]))) := e11.blk
  have K11 := K10.trans (e11.kp (.inl (.inl rfl)))
  have BW11 := BW10.kp (e11.kp (S := fun j => j = bx) (.inl rfl)) hne
  clear e11 BX10 K10 BW10
  (refine AtR_nil (At_inBlock (At_region ?_)); refine s_ad ?_; refine s_mv ?_; refine AtR_nil ?_)
  have hit' : iter h l (t + 1) = (rnd (kSha.getD t 0) ((nextC c t).getD (t % 16) 0) [xa, xb, xc, xd, xe, xf, xg, xh], nextC c t) := by rw [iter, hit]
  exact again (t + 1) _ _ ⟨rfl, rfl, rfl, rfl, rfl, trivial⟩ ⟨hlt, by rw [hit']; exact BX11, by rw [hit']; exact BW11, K.trans K11⟩ (by omega)
 have ht80 : t = 80 := by omega
 subst ht80
 clear again
 have hX8 := (iter_length (h := h) (l := l) hh 80).1
 obtain ⟨Z, hZ⟩ : ∃ Z, Z = (iter h l 80).1 := ⟨_, rfl⟩
 rw [← hZ] at BX hX8
 clear BW
 have hV6 := V5.kp K (by omega)
 have z6 := K.size
 (refine At_seq (At_region ?_); refine s_lss ?_; refine AtR_nil (At_seq ?_); refine At_cond_f rfl ?_; refine At_exit rfl ?_; refine At_seq (At_region ?_); refine s_mv ?_; refine AtR_nil (At_block ?_))
 refine At_while (fun i : Nat => [(0, .pointer (some ⟨bv, 0, none⟩)), (5, .pointer (some ⟨bx, 0, none⟩)), (76, .int .i64 (i : Int))])
  (fun i w' => i ≤ 8 ∧ Blk w' bx 225 (0, 0) (ints .u64 (ws Z)) ∧ (∃ V : List (BitVec 64), Blk w' bv 225 (0, 0) (ints .u64 (ws V)) ∧ V.length = 8 ∧ ∀ j, V.getD j 0 = if j < i then h.getD j 0 + Z.getD j 0 else h.getD j 0) ∧ Kp (fun j => j = bv) w6 w') (fun i => 8 - i) 0
  ⟨rfl, rfl, rfl, trivial⟩ ⟨by omega, BX, ⟨h, hV6, hh, fun j => by simp⟩, Kp.refl _ _⟩ ?_
 clear BX hV6 V5
 rintro i w7 junk2 ⟨hi, BX, ⟨V, BV, hV8, hVj⟩, K7⟩ again
 by_cases hlt2 : i < 8
 ·have kd := Kp.drew (S := No) (w := w7)
  have hvx : bx ≠ bv := by omega
  (refine At_seq (At_region ?_); refine s_lss ?_; refine AtR_nil (At_seq ?_); refine At_cond_t rfl ?_; refine At_skip (At_seq (At_block (At_seq (At_region ?_)))); refine s_mv ?_; refine s_as ?_; refine AtR_nil ?_)
  refine At_draw (fun w' => Blk w' bx 225 (0, 0) (ints .u64 (ws Z))) rfl ?_
  have hS : Blk w7.drew bx 225 (0, 0) (ints .u64 (ws Z)) := BX.kp kd id
  have BV7 := BV.kp kd id
  (apply AtH_take 0 rfl (by decide +kernel) (by exact rfl); (focus (intro wx hx; skip; exact x_move (by conv => lhs; whnf))); (focus (exact hS)))
  (apply AtH_take 1 rfl (by decide +kernel) (by exact rfl); (focus (intro wx hx; skip; exact x_move (by conv => lhs; whnf))); (focus (exact hS)))
  (apply AtH_take 2 rfl (by decide +kernel) (by exact rfl); (focus (intro wx hx; skip; exact x_nilCheck rfl)); (focus (exact hS)))
  (apply AtH_take 3 rfl (by decide +kernel) (by exact rfl); (focus (intro wx hx; skip; exact x_indexAddrA rfl rfl (by omega))); (focus (exact hS)))
  (apply AtH_take 5 rfl (by decide +kernel) (by exact rfl); (focus (intro wx hx; skip; exact x_move (by conv => lhs; whnf))); (focus (exact hS)))
  (apply AtH_take 6 rfl (by decide +kernel) (by exact rfl); (focus (intro wx hx; skip; exact x_indexAddrA rfl rfl (by omega))); (focus (exact hS)))
  (apply AtH_take 7 rfl (by decide +kernel) (by exact rfl); (focus (intro wx hx; skip; exact x_load_bw rfl (by assumption) (by omega))); (focus (exact hS)))
  (apply AtH_take 9 rfl (by decide +kernel) (by exact rfl); (focus (intro wx hx; skip; exact x_nilCheck rfl)); (focus (exact hS)))
  refine AtH_val 4 rfl (by decide +kernel) rfl (x_load_bw rfl BV7 (by omega)) hS ?_
  (apply AtH_take 8 rfl (by decide +kernel) (by exact rfl); (focus (intro wx hx; skip; exact x_addW rfl rfl)); (focus (exact hS)))
  (apply AtH_take 10 rfl (by decide +kernel) (by exact rfl); (focus (intro wx hx; skip; exact x_indexAddrA rfl rfl (by omega))); (focus (exact hS)))
  refine H_skip 11 rfl (by decide +kernel) rfl (r_store_bw rfl rfl BV7 (by omega) rfl) fun w8 e8 => ?_
  have hS8 := hS.kp (e8.kp (S := fun j => j = bv) (.inl rfl)) hvx
  refine ⟨hS8, AtH_done (by decide +kernel) ?_⟩
  (refine At_inBlock (At_region ?_); refine s_ad ?_; refine s_mv ?_; refine AtR_nil ?_)
  refine again (i + 1) _ _ ⟨rfl, rfl, rfl, trivial⟩ ⟨hlt2, hS8, ⟨_, e8.blk, by simpa using hV8, fun j => ?_⟩, (K7.trans (kd.mono fun _ c => c.elim)).trans (e8.kp (.inl rfl))⟩ (by omega)
  rw [getDw_set _ _ _ _ (by omega), hVj, hVj]
  by_cases e : j = i
  ·subst e; simp
  ·rw [if_neg e]
   by_cases e2 : j < i
   ·rw [if_pos e2, if_pos (by omega)]
   ·rw [if_neg e2, if_neg (by omega)]
 ·have hi8 : i = 8 := by omega
  subst hi8
  clear again
  have hVe : V = takeB h l := by
   apply List.ext_getElem (by rw [hV8, takeB_length hh])
   intro j hj1 hj2
   have := hVj j
   rw [if_pos (by omega)] at this
   rw [getDw_lt hj1, getDw_lt (by omega), getDw_lt (by omega)] at this
   rw [this]
   simp [takeB, ← hZ]
  subst hVe
  (refine At_seq (At_region ?_); refine s_lss ?_; refine AtR_nil (At_seq ?_); refine At_cond_f rfl ?_; refine At_exit rfl ?_)
  exact At_end0 Tryd.func137 rfl ⟨rfl, BV, ((K05.trans' K (by rintro j (rfl | rfl) <;> right <;> omega)).mono fun _ c => c.elim).trans K7⟩
end Go.Proofs.YtfngacepjcdlnaaDoor
