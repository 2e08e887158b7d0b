/- The reference of the layer 'space': its lists. -/
import Derived.Test.YtogfkmejgjodaaaSi
set_option linter.unusedVariables false
namespace Go.Kx
open Go
/-- A slice without its first m. -/
theorem r_drop {P : Program} {n : Nat} {env : Env} {w : World} {dst : Option Tmp} {ty : TypeId} {pos : String} {aft : Array Edge} {g : Option (Nat × Bool)} {T E : TypeId} [hT : TU P T (.slice E)] [hs : TSz P E 1] {x lo : Operand}
    {a : Option Addr} {len cap m : Nat} {k kl : IntKind} {xs : List Int} (h : Sl w k a len cap xs) (h0 : m ≤ len) (hx : ev n env x = .slice a len cap) (hh : ev n env lo = .int kl (m : Int)) :
    ∃ v w', Run P n env ⟨dst, .slice T x (some lo) none none, ty, pos, aft, g⟩ w (.ok (.value v) w') ∧ ∃ a', v = .slice a' (len - m) (cap - m) ∧ Sl w k a' (len - m) (cap - m) (xs.drop m) ∧ w = w' := by
  have hl := h.len_eq
  have hc := h.le
  have hm := h.max
  have hb : (Instr.sliceBound (.int kl (m : Int)) len .sliceB).run P w = .ok m w := by
    have := run_sliceBound w kl (m : Int) len .sliceB (P := P) (by omega) (by omega)
    rwa [Int.toNat_natCast] at this
  rcases h.mem with ⟨rfl, hc0⟩ | ⟨b, off, rfl, hlt, hseg⟩
  · have hm0 : m = 0 := by omega
    have hl0 : len = 0 := by omega
    subst hm0
    subst hl0
    subst hc0
    have hb0 : (Instr.sliceBound (.int kl 0) 0 .sliceB).run P w = .ok 0 w := hb
    refine ⟨_, _, ?_, none, rfl, ⟨by simpa using hl, by omega, by omega, .inl ⟨rfl, rfl⟩⟩, rfl⟩
    unfold Run
    simp [execOp, hx, hh, Instr.sliceAt, Instr.slice, run_underlying hT.h, Instr.sliceBounds, hb0, run_sizeOf hs.h]
  · by_cases hcap : m < cap
    · refine ⟨_, _, ?_, some ⟨b, off + m, none⟩, rfl, ⟨by simp; omega, by omega, by omega, .inr ⟨b, off + m, rfl, hlt, fun j hj => ?_⟩⟩, rfl⟩
      · have hne : cap ≠ m := by omega
        unfold Run
        simp [execOp, hx, hh, Instr.sliceAt, Instr.slice, run_underlying hT.h, Instr.sliceBounds, hb, run_sizeOf hs.h, hne, add_none]
      · simp at hj
        have := hseg (m + j) (by simp; omega)
        rw [show off + m + j = off + (m + j) by omega, this]
        simp [ints]
    · have hcm : cap = m := by omega
      have hlm : len = m := by omega
      subst hcm
      subst hlm
      refine ⟨_, _, ?_, some ⟨b, off, none⟩, rfl, ⟨by simp; omega, by omega, by omega, .inr ⟨b, off, rfl, hlt, fun j hj => ?_⟩⟩, rfl⟩
      · unfold Run
        simp [execOp, hx, hh, Instr.sliceAt, Instr.slice, run_underlying hT.h, Instr.sliceBounds, hb, run_sizeOf hs.h]
      · simp at hj; omega
end Go.Kx
namespace Go.Proofs.Ytogfkmejgjodaaa
open Go Go.Kx
set_option maxRecDepth 100000 in
theorem has_u (xs : List Int) (v : Int) (a : Option Addr) (len cap : Nat) (w : World) (hs : Sl w .i64 a len cap xs) :
    Calls Try.prog 40 #[.slice a len cap, .int .i64 v] w fun e w' => e = .returned (.bool (decide (v ∈ xs))) ∧ w = w' := by
  have hl := hs.len_eq
  have hm := hs.max
  have hc := hs.le
  refine calls_at (n := 18) Try.func40 rfl rfl (by simp) ?_
  repeat (first | refine AtR_nil ?_ | refine s_mv ?_ | refine s_as ?_ | refine s_pt ?_ | refine s_pf ?_ | refine s_nt ?_ | refine s_ex ?_ | refine s_nc ?_ | refine s_fa ?_ | refine s_ld ?_ | refine s_ia ?_ | refine s_sl ?_ | refine s_ad ?_ | refine s_sb ?_ | refine s_ln ?_ | refine s_cv ?_ | refine s_lss ?_ | refine s_leq ?_ | refine s_gtr ?_ | refine s_geq ?_ | refine s_eql ?_ | refine s_neq ?_ | refine s_eqlf ?_ | refine s_eqlp ?_ | refine s_eqln ?_ | refine s_neqf ?_ | refine s_neqp ?_ | refine s_neqn ?_ | refine At_seq ?_ | refine At_region ?_ | refine AtR_nil ?_ | refine At_block ?_ | refine At_inBlock ?_ | refine At_skip ?_ | refine At_cond_t rfl ?_ | refine At_cond_f rfl ?_ | refine At_exit rfl ?_ | refine s_no rfl rfl rfl rfl ?_ | refine s_nou rfl rfl rfl ?_ | (refine s_yes rfl rfl rfl rfl ?_; first | refine g_mv ?_ | refine g_as ?_ | refine g_pt ?_ | refine g_pf ?_ | refine g_nt ?_ | refine g_ex ?_ | refine g_nc ?_ | refine g_fa ?_ | refine g_ld ?_ | refine g_ia ?_ | refine g_sl ?_ | refine g_ad ?_ | refine g_sb ?_ | refine g_ln ?_ | refine g_cv ?_ | refine g_lss ?_ | refine g_leq ?_ | refine g_gtr ?_ | refine g_geq ?_ | refine g_eql ?_ | refine g_neq ?_ | refine g_eqlf ?_ | refine g_eqlp ?_ | refine g_eqln ?_ | refine g_neqf ?_ | refine g_neqp ?_ | refine g_neqn ?_))
  refine At_while (fun k : Nat => [(0, .slice a len cap), (1, .int .i64 v), (5, .int .i64 k)])
    (fun k w' => w' = w ∧ k ≤ len ∧ ∀ j, j < k → xs.getD j 0 ≠ v) (fun k => len - k) 0 ⟨rfl, rfl, rfl, trivial⟩ ⟨rfl, by omega, by omega⟩ ?_
  rintro k w junk ⟨rfl, hk, he⟩ again
  by_cases hlt : k < len
  · rcases hs.mem with ⟨rfl, h0⟩ | ⟨b, off, rfl, _, hsg⟩
    · omega
    by_cases hv : xs.getD k 0 = v
    · repeat (first | refine AtR_nil ?_ | refine s_mv ?_ | refine s_as ?_ | refine s_pt ?_ | refine s_pf ?_ | refine s_nt ?_ | refine s_ex ?_ | refine s_nc ?_ | refine s_fa ?_ | refine s_ld ?_ | refine s_ia ?_ | refine s_sl ?_ | refine s_ad ?_ | refine s_sb ?_ | refine s_ln ?_ | refine s_cv ?_ | refine s_lss ?_ | refine s_leq ?_ | refine s_gtr ?_ | refine s_geq ?_ | refine s_eql ?_ | refine s_neq ?_ | refine s_eqlf ?_ | refine s_eqlp ?_ | refine s_eqln ?_ | refine s_neqf ?_ | refine s_neqp ?_ | refine s_neqn ?_ | refine At_seq ?_ | refine At_region ?_ | refine AtR_nil ?_ | refine At_block ?_ | refine At_inBlock ?_ | refine At_skip ?_ | refine At_cond_t rfl ?_ | refine At_cond_f rfl ?_ | refine At_exit rfl ?_ | refine s_no rfl rfl rfl rfl ?_ | refine s_nou rfl rfl rfl ?_ | (refine s_yes rfl rfl rfl rfl ?_; first | refine g_mv ?_ | refine g_as ?_ | refine g_pt ?_ | refine g_pf ?_ | refine g_nt ?_ | refine g_ex ?_ | refine g_nc ?_ | refine g_fa ?_ | refine g_ld ?_ | refine g_ia ?_ | refine g_sl ?_ | refine g_ad ?_ | refine g_sb ?_ | refine g_ln ?_ | refine g_cv ?_ | refine g_lss ?_ | refine g_leq ?_ | refine g_gtr ?_ | refine g_geq ?_ | refine g_eql ?_ | refine g_neq ?_ | refine g_eqlf ?_ | refine g_eqlp ?_ | refine g_eqln ?_ | refine g_neqf ?_ | refine g_neqp ?_ | refine g_neqn ?_))
      refine At_ret1 Try.func40 rfl (by conv => lhs; whnf) ?_
      have : v ∈ xs := by rw [← hv, getD_lt (by omega)]; exact List.getElem_mem (by omega)
      exact ⟨by rw [decide_eq_true this], rfl⟩
    · repeat (first | refine AtR_nil ?_ | refine s_mv ?_ | refine s_as ?_ | refine s_pt ?_ | refine s_pf ?_ | refine s_nt ?_ | refine s_ex ?_ | refine s_nc ?_ | refine s_fa ?_ | refine s_ld ?_ | refine s_ia ?_ | refine s_sl ?_ | refine s_ad ?_ | refine s_sb ?_ | refine s_ln ?_ | refine s_cv ?_ | refine s_lss ?_ | refine s_leq ?_ | refine s_gtr ?_ | refine s_geq ?_ | refine s_eql ?_ | refine s_neq ?_ | refine s_eqlf ?_ | refine s_eqlp ?_ | refine s_eqln ?_ | refine s_neqf ?_ | refine s_neqp ?_ | refine s_neqn ?_ | refine At_seq ?_ | refine At_region ?_ | refine AtR_nil ?_ | refine At_block ?_ | refine At_inBlock ?_ | refine At_skip ?_ | refine At_cond_t rfl ?_ | refine At_cond_f rfl ?_ | refine At_exit rfl ?_ | refine s_no rfl rfl rfl rfl ?_ | refine s_nou rfl rfl rfl ?_ | (refine s_yes rfl rfl rfl rfl ?_; first | refine g_mv ?_ | refine g_as ?_ | refine g_pt ?_ | refine g_pf ?_ | refine g_nt ?_ | refine g_ex ?_ | refine g_nc ?_ | refine g_fa ?_ | refine g_ld ?_ | refine g_ia ?_ | refine g_sl ?_ | refine g_ad ?_ | refine g_sb ?_ | refine g_ln ?_ | refine g_cv ?_ | refine g_lss ?_ | refine g_leq ?_ | refine g_gtr ?_ | refine g_geq ?_ | refine g_eql ?_ | refine g_neq ?_ | refine g_eqlf ?_ | refine g_eqlp ?_ | refine g_eqln ?_ | refine g_neqf ?_ | refine g_neqp ?_ | refine g_neqn ?_))
      refine again (k + 1) w _ ⟨rfl, rfl, rfl, trivial⟩ ⟨rfl, hlt, fun j hj => ?_⟩ (by omega)
      by_cases e : j = k
      · rw [e]; exact hv
      · exact he j (by omega)
  · repeat (first | refine AtR_nil ?_ | refine s_mv ?_ | refine s_as ?_ | refine s_pt ?_ | refine s_pf ?_ | refine s_nt ?_ | refine s_ex ?_ | refine s_nc ?_ | refine s_fa ?_ | refine s_ld ?_ | refine s_ia ?_ | refine s_sl ?_ | refine s_ad ?_ | refine s_sb ?_ | refine s_ln ?_ | refine s_cv ?_ | refine s_lss ?_ | refine s_leq ?_ | refine s_gtr ?_ | refine s_geq ?_ | refine s_eql ?_ | refine s_neq ?_ | refine s_eqlf ?_ | refine s_eqlp ?_ | refine s_eqln ?_ | refine s_neqf ?_ | refine s_neqp ?_ | refine s_neqn ?_ | refine At_seq ?_ | refine At_region ?_ | refine AtR_nil ?_ | refine At_block ?_ | refine At_inBlock ?_ | refine At_skip ?_ | refine At_cond_t rfl ?_ | refine At_cond_f rfl ?_ | refine At_exit rfl ?_ | refine s_no rfl rfl rfl rfl ?_ | refine s_nou rfl rfl rfl ?_ | (refine s_yes rfl rfl rfl rfl ?_; first | refine g_mv ?_ | refine g_as ?_ | refine g_pt ?_ | refine g_pf ?_ | refine g_nt ?_ | refine g_ex ?_ | refine g_nc ?_ | refine g_fa ?_ | refine g_ld ?_ | refine g_ia ?_ | refine g_sl ?_ | refine g_ad ?_ | refine g_sb ?_ | refine g_ln ?_ | refine g_cv ?_ | refine g_lss ?_ | refine g_leq ?_ | refine g_gtr ?_ | refine g_geq ?_ | refine g_eql ?_ | refine g_neq ?_ | refine g_eqlf ?_ | refine g_eqlp ?_ | refine g_eqln ?_ | refine g_neqf ?_ | refine g_neqp ?_ | refine g_neqn ?_))
    refine At_ret1 Try.func40 rfl (by conv => lhs; whnf) ?_
    have : ¬ v ∈ xs := fun hin => by
      obtain ⟨j, hj, e⟩ := List.getElem_of_mem hin
      exact he j (by omega) (by rw [getD_lt hj, e])
    exact ⟨by rw [decide_eq_false this], rfl⟩
/-- What comes back is a slice of its own, newly made. -/
def NewSl (w : World) (xs : List Int) (e : Ending) (w' : World) : Prop :=
  ∃ a cap, e = .returned (.slice a xs.length cap) ∧ Own w' 3 1 a xs.length cap (ints .i64 xs) ∧ (∀ j, blkOf a j → w.heap.size ≤ j) ∧ Kp No w w'
theorem ints_snoc (xs : List Int) (x : Int) : ints .i64 (xs ++ [x]) = ints .i64 xs ++ ints .i64 [x] := by simp [ints]
theorem ints_app (xs ys : List Int) : ints .i64 (xs ++ ys) = ints .i64 xs ++ ints .i64 ys := by simp [ints]
set_option maxRecDepth 100000 in
set_option maxHeartbeats 1000000 in
theorem without_u (xs : List Int) (v : Int) (a : Option Addr) (len cap : Nat) (w : World) (hs : Sl w .i64 a len cap xs) (hlen : len ≤ 1000000) :
    Calls Try.prog 41 #[.slice a len cap, .int .i64 v] w (NewSl w (xs.filter (· ≠ v))) := by
  have hl := hs.len_eq
  have hm := hs.max
  have hc := hs.le
  refine calls_at (n := 27) Try.func41 rfl rfl (by simp) ?_
  repeat (first | refine AtR_nil ?_ | refine s_mv ?_ | refine s_as ?_ | refine s_pt ?_ | refine s_pf ?_ | refine s_nt ?_ | refine s_ex ?_ | refine s_nc ?_ | refine s_fa ?_ | refine s_ld ?_ | refine s_ia ?_ | refine s_sl ?_ | refine s_ad ?_ | refine s_sb ?_ | refine s_ln ?_ | refine s_cv ?_ | refine s_lss ?_ | refine s_leq ?_ | refine s_gtr ?_ | refine s_geq ?_ | refine s_eql ?_ | refine s_neq ?_ | refine s_eqlf ?_ | refine s_eqlp ?_ | refine s_eqln ?_ | refine s_neqf ?_ | refine s_neqp ?_ | refine s_neqn ?_ | refine At_seq ?_ | refine At_region ?_ | refine AtR_nil ?_ | refine At_block ?_ | refine At_inBlock ?_ | refine At_skip ?_ | refine At_cond_t rfl ?_ | refine At_cond_f rfl ?_ | refine At_exit rfl ?_ | refine s_no rfl rfl rfl rfl ?_ | refine s_nou rfl rfl rfl ?_ | (refine s_yes rfl rfl rfl rfl ?_; first | refine g_mv ?_ | refine g_as ?_ | refine g_pt ?_ | refine g_pf ?_ | refine g_nt ?_ | refine g_ex ?_ | refine g_nc ?_ | refine g_fa ?_ | refine g_ld ?_ | refine g_ia ?_ | refine g_sl ?_ | refine g_ad ?_ | refine g_sb ?_ | refine g_ln ?_ | refine g_cv ?_ | refine g_lss ?_ | refine g_leq ?_ | refine g_gtr ?_ | refine g_geq ?_ | refine g_eql ?_ | refine g_neq ?_ | refine g_eqlf ?_ | refine g_eqlp ?_ | refine g_eqln ?_ | refine g_neqf ?_ | refine g_neqp ?_ | refine g_neqn ?_))
  refine At_while (fun s : Nat × Option Addr × Nat => [(0, .slice a len cap), (1, .int .i64 v), (5, .slice s.2.1 ((xs.take s.1).filter (· ≠ v)).length s.2.2), (6, .int .i64 s.1)])
    (fun s w' => s.1 ≤ len ∧ Own w' 3 1 s.2.1 ((xs.take s.1).filter (· ≠ v)).length s.2.2 (ints .i64 ((xs.take s.1).filter (· ≠ v))) ∧ (∀ j, blkOf s.2.1 j → w.heap.size ≤ j) ∧ Kp No w w') (fun s => len - s.1) (0, none, 0) ⟨rfl, rfl, rfl, rfl, trivial⟩
    ⟨by omega, Own.nil _ _ _, fun j hj => by simp [blkOf] at hj, Kp.refl _ _⟩ ?_
  rintro ⟨k, a1, cap1⟩ w1 junk ⟨hk, ho, hf, k1⟩ again
  simp only at hk ho hf again ⊢
  by_cases hlt : k < len
  · have hcount : ((xs.take k).filter (· ≠ v)).length ≤ k := by
      have := List.length_filter_le (· ≠ v) (xs.take k)
      rw [List.length_take] at this
      omega
    rcases (hs.kpn k1).mem with ⟨rfl, h0⟩ | ⟨b, off, rfl, _, hsg⟩
    · omega
    have e2 : (xs.take (k + 1)).filter (· ≠ v) = (xs.take k).filter (· ≠ v) ++ if xs.getD k 0 = v then [] else [xs.getD k 0] := by
      rw [List.take_succ_eq_append_getElem (by omega), List.filter_append, getD_lt (by omega)]
      congr 1
      by_cases c : xs[k] = v <;> simp [c]
    by_cases hv : xs.getD k 0 = v
    · rw [if_pos hv, List.append_nil] at e2
      repeat (first | refine AtR_nil ?_ | refine s_mv ?_ | refine s_as ?_ | refine s_pt ?_ | refine s_pf ?_ | refine s_nt ?_ | refine s_ex ?_ | refine s_nc ?_ | refine s_fa ?_ | refine s_ld ?_ | refine s_ia ?_ | refine s_sl ?_ | refine s_ad ?_ | refine s_sb ?_ | refine s_ln ?_ | refine s_cv ?_ | refine s_lss ?_ | refine s_leq ?_ | refine s_gtr ?_ | refine s_geq ?_ | refine s_eql ?_ | refine s_neq ?_ | refine s_eqlf ?_ | refine s_eqlp ?_ | refine s_eqln ?_ | refine s_neqf ?_ | refine s_neqp ?_ | refine s_neqn ?_ | refine At_seq ?_ | refine At_region ?_ | refine AtR_nil ?_ | refine At_block ?_ | refine At_inBlock ?_ | refine At_skip ?_ | refine At_cond_t rfl ?_ | refine At_cond_f rfl ?_ | refine At_exit rfl ?_ | refine s_no rfl rfl rfl rfl ?_ | refine s_nou rfl rfl rfl ?_ | (refine s_yes rfl rfl rfl rfl ?_; first | refine g_mv ?_ | refine g_as ?_ | refine g_pt ?_ | refine g_pf ?_ | refine g_nt ?_ | refine g_ex ?_ | refine g_nc ?_ | refine g_fa ?_ | refine g_ld ?_ | refine g_ia ?_ | refine g_sl ?_ | refine g_ad ?_ | refine g_sb ?_ | refine g_ln ?_ | refine g_cv ?_ | refine g_lss ?_ | refine g_leq ?_ | refine g_gtr ?_ | refine g_geq ?_ | refine g_eql ?_ | refine g_neq ?_ | refine g_eqlf ?_ | refine g_eqlp ?_ | refine g_eqln ?_ | refine g_neqf ?_ | refine g_neqp ?_ | refine g_neqn ?_))
      refine again (k + 1, a1, cap1) _ _ ?_ ?_ (by omega)
      · refine ⟨rfl, rfl, ?_, rfl, trivial⟩
        rw [e2]; rfl
      · simp only
        rw [e2]
        exact ⟨hlt, ho, hf, k1⟩
    · rw [if_neg hv] at e2
      repeat (first | refine AtR_nil ?_ | refine s_mv ?_ | refine s_as ?_ | refine s_pt ?_ | refine s_pf ?_ | refine s_nt ?_ | refine s_ex ?_ | refine s_nc ?_ | refine s_fa ?_ | refine s_ld ?_ | refine s_ia ?_ | refine s_sl ?_ | refine s_ad ?_ | refine s_sb ?_ | refine s_ln ?_ | refine s_cv ?_ | refine s_lss ?_ | refine s_leq ?_ | refine s_gtr ?_ | refine s_geq ?_ | refine s_eql ?_ | refine s_neq ?_ | refine s_eqlf ?_ | refine s_eqlp ?_ | refine s_eqln ?_ | refine s_neqf ?_ | refine s_neqp ?_ | refine s_neqn ?_ | refine At_seq ?_ | refine At_region ?_ | refine AtR_nil ?_ | refine At_block ?_ | refine At_inBlock ?_ | refine At_skip ?_ | refine At_cond_t rfl ?_ | refine At_cond_f rfl ?_ | refine At_exit rfl ?_ | refine s_no rfl rfl rfl rfl ?_ | refine s_nou rfl rfl rfl ?_ | (refine s_yes rfl rfl rfl rfl ?_; first | refine g_mv ?_ | refine g_as ?_ | refine g_pt ?_ | refine g_pf ?_ | refine g_nt ?_ | refine g_ex ?_ | refine g_nc ?_ | refine g_fa ?_ | refine g_ld ?_ | refine g_ia ?_ | refine g_sl ?_ | refine g_ad ?_ | refine g_sb ?_ | refine g_ln ?_ | refine g_cv ?_ | refine g_lss ?_ | refine g_leq ?_ | refine g_gtr ?_ | refine g_geq ?_ | refine g_eql ?_ | refine g_neq ?_ | refine g_eqlf ?_ | refine g_eqlp ?_ | refine g_eqln ?_ | refine g_neqf ?_ | refine g_neqp ?_ | refine g_neqn ?_))
      refine AtR_go rfl (AtG_buildSlice1 (ops := [_]) rfl rfl (by omega) rfl rfl rfl fun b w2 hb e3 => ?_)
      have hsrc : Src Try.prog 1 51 (.slice (some ⟨b, 0, none⟩) 1 1) 1 (ints .i64 [xs.getD k 0]) w2 := (((e3.blk : Blk w2 b 3 (0, 0) (ints .i64 [xs.getD k 0])).sl (m := 1) rfl (by omega)).src rfl)
      refine AtR_go rfl (AtG_append rfl rfl (ho.kp (e3.kp (S := No) (.inr (by omega))) (fun _ _ => id)) hsrc rfl (by omega) (by simp only [maxLen]; omega) (by omega) fun a' cap' w3 ho3 k3 hfr => ?_)
      rw [← ints_snoc] at ho3
      have hz := e3.size
      have k0 := k1.size
      repeat (first | refine AtR_nil ?_ | refine s_mv ?_ | refine s_as ?_ | refine s_pt ?_ | refine s_pf ?_ | refine s_nt ?_ | refine s_ex ?_ | refine s_nc ?_ | refine s_fa ?_ | refine s_ld ?_ | refine s_ia ?_ | refine s_sl ?_ | refine s_ad ?_ | refine s_sb ?_ | refine s_ln ?_ | refine s_cv ?_ | refine s_lss ?_ | refine s_leq ?_ | refine s_gtr ?_ | refine s_geq ?_ | refine s_eql ?_ | refine s_neq ?_ | refine s_eqlf ?_ | refine s_eqlp ?_ | refine s_eqln ?_ | refine s_neqf ?_ | refine s_neqp ?_ | refine s_neqn ?_ | refine At_seq ?_ | refine At_region ?_ | refine AtR_nil ?_ | refine At_block ?_ | refine At_inBlock ?_ | refine At_skip ?_ | refine At_cond_t rfl ?_ | refine At_cond_f rfl ?_ | refine At_exit rfl ?_ | refine s_no rfl rfl rfl rfl ?_ | refine s_nou rfl rfl rfl ?_ | (refine s_yes rfl rfl rfl rfl ?_; first | refine g_mv ?_ | refine g_as ?_ | refine g_pt ?_ | refine g_pf ?_ | refine g_nt ?_ | refine g_ex ?_ | refine g_nc ?_ | refine g_fa ?_ | refine g_ld ?_ | refine g_ia ?_ | refine g_sl ?_ | refine g_ad ?_ | refine g_sb ?_ | refine g_ln ?_ | refine g_cv ?_ | refine g_lss ?_ | refine g_leq ?_ | refine g_gtr ?_ | refine g_geq ?_ | refine g_eql ?_ | refine g_neq ?_ | refine g_eqlf ?_ | refine g_eqlp ?_ | refine g_eqln ?_ | refine g_neqf ?_ | refine g_neqp ?_ | refine g_neqn ?_))
      refine again (k + 1, a', cap') _ _ ?_ ?_ (by omega)
      · refine ⟨rfl, rfl, ?_, rfl, trivial⟩
        rw [e2, List.length_append]
        rfl
      · simp only
        rw [e2, List.length_append]
        refine ⟨hlt, ho3, ?_, ?_⟩
        · rcases hfr with rfl | ⟨b', rfl, hb'⟩
          · exact hf
          · intro j hj; simp [blkOf] at hj; omega
        · exact (k1.trans (e3.kp (S := No) (.inr (by omega)))).trans' k3 fun j hj => .inr (hf j hj)
  · have e : xs.take k = xs := List.take_of_length_le (by omega)
    rw [e] at ho
    repeat (first | refine AtR_nil ?_ | refine s_mv ?_ | refine s_as ?_ | refine s_pt ?_ | refine s_pf ?_ | refine s_nt ?_ | refine s_ex ?_ | refine s_nc ?_ | refine s_fa ?_ | refine s_ld ?_ | refine s_ia ?_ | refine s_sl ?_ | refine s_ad ?_ | refine s_sb ?_ | refine s_ln ?_ | refine s_cv ?_ | refine s_lss ?_ | refine s_leq ?_ | refine s_gtr ?_ | refine s_geq ?_ | refine s_eql ?_ | refine s_neq ?_ | refine s_eqlf ?_ | refine s_eqlp ?_ | refine s_eqln ?_ | refine s_neqf ?_ | refine s_neqp ?_ | refine s_neqn ?_ | refine At_seq ?_ | refine At_region ?_ | refine AtR_nil ?_ | refine At_block ?_ | refine At_inBlock ?_ | refine At_skip ?_ | refine At_cond_t rfl ?_ | refine At_cond_f rfl ?_ | refine At_exit rfl ?_ | refine s_no rfl rfl rfl rfl ?_ | refine s_nou rfl rfl rfl ?_ | (refine s_yes rfl rfl rfl rfl ?_; first | refine g_mv ?_ | refine g_as ?_ | refine g_pt ?_ | refine g_pf ?_ | refine g_nt ?_ | refine g_ex ?_ | refine g_nc ?_ | refine g_fa ?_ | refine g_ld ?_ | refine g_ia ?_ | refine g_sl ?_ | refine g_ad ?_ | refine g_sb ?_ | refine g_ln ?_ | refine g_cv ?_ | refine g_lss ?_ | refine g_leq ?_ | refine g_gtr ?_ | refine g_geq ?_ | refine g_eql ?_ | refine g_neq ?_ | refine g_eqlf ?_ | refine g_eqlp ?_ | refine g_eqln ?_ | refine g_neqf ?_ | refine g_neqp ?_ | refine g_neqn ?_))
    refine At_ret1 Try.func41 rfl (by conv => lhs; whnf) ?_
    refine ⟨a1, cap1, ?_, ho, hf, k1⟩
    rw [e]
/-- Put's answer. -/
def putL (n : Int) (xs : List Int) : List Int := xs.takeWhile (· < n) ++ n :: xs.dropWhile (· < n)
theorem putL_eq {n : Int} {xs : List Int} {i : Nat} (hi : i ≤ xs.length) (h : ∀ j, j < i → xs.getD j 0 < n) (h2 : i < xs.length → ¬ xs.getD i 0 < n) : xs.take i ++ n :: xs.drop i = putL n xs := by
  induction xs generalizing i with
  | nil => have : i = 0 := by simpa using hi
           subst this; rfl
  | cons x xs ih =>
    cases i with
    | zero =>
      have hx : ¬ x < n := by simpa using h2 (by simp)
      simp [putL, List.takeWhile, List.dropWhile, hx]
    | succ i =>
      have hx : x < n := by simpa using h 0 (by omega)
      have hi' : i ≤ xs.length := by simpa using hi
      have := ih hi' (fun j hj => by simpa using h (j + 1) (by omega)) (fun hlt => by simpa using h2 (by simpa using hlt))
      simp only [putL, List.takeWhile, List.dropWhile, hx, decide_true, List.take_succ_cons, List.drop_succ_cons, List.cons_append] at this ⊢
      rw [this]
set_option maxRecDepth 100000 in
set_option maxHeartbeats 1000000 in
theorem put_u (xs : List Int) (v : Int) (a : Option Addr) (len cap : Nat) (w : World) (hs : Sl w .i64 a len cap xs) (hlen : len ≤ 1000000) :
    Calls Try.prog 38 #[.slice a len cap, .int .i64 v] w (NewSl w (putL v xs)) := by
  have hl := hs.len_eq
  have hm := hs.max
  have hc := hs.le
  refine calls_at (n := 37) Try.func38 rfl rfl (by simp) ?_
  repeat (first | refine AtR_nil ?_ | refine s_mv ?_ | refine s_as ?_ | refine s_pt ?_ | refine s_pf ?_ | refine s_nt ?_ | refine s_ex ?_ | refine s_nc ?_ | refine s_fa ?_ | refine s_ld ?_ | refine s_ia ?_ | refine s_sl ?_ | refine s_ad ?_ | refine s_sb ?_ | refine s_ln ?_ | refine s_cv ?_ | refine s_lss ?_ | refine s_leq ?_ | refine s_gtr ?_ | refine s_geq ?_ | refine s_eql ?_ | refine s_neq ?_ | refine s_eqlf ?_ | refine s_eqlp ?_ | refine s_eqln ?_ | refine s_neqf ?_ | refine s_neqp ?_ | refine s_neqn ?_ | refine At_seq ?_ | refine At_region ?_ | refine AtR_nil ?_ | refine At_block ?_ | refine At_inBlock ?_ | refine At_skip ?_ | refine At_cond_t rfl ?_ | refine At_cond_f rfl ?_ | refine At_exit rfl ?_ | refine s_no rfl rfl rfl rfl ?_ | refine s_nou rfl rfl rfl ?_ | (refine s_yes rfl rfl rfl rfl ?_; first | refine g_mv ?_ | refine g_as ?_ | refine g_pt ?_ | refine g_pf ?_ | refine g_nt ?_ | refine g_ex ?_ | refine g_nc ?_ | refine g_fa ?_ | refine g_ld ?_ | refine g_ia ?_ | refine g_sl ?_ | refine g_ad ?_ | refine g_sb ?_ | refine g_ln ?_ | refine g_cv ?_ | refine g_lss ?_ | refine g_leq ?_ | refine g_gtr ?_ | refine g_geq ?_ | refine g_eql ?_ | refine g_neq ?_ | refine g_eqlf ?_ | refine g_eqlp ?_ | refine g_eqln ?_ | refine g_neqf ?_ | refine g_neqp ?_ | refine g_neqn ?_))
  refine At_while (fun s : Nat × Option Addr × Nat => [(0, .slice a len cap), (1, .int .i64 v), (5, .slice s.2.1 s.1 s.2.2), (6, .int .i64 s.1)])
    (fun s w' => s.1 ≤ len ∧ (∀ j, j < s.1 → xs.getD j 0 < v) ∧ Own w' 3 1 s.2.1 s.1 s.2.2 (ints .i64 (xs.take s.1)) ∧ (∀ j, blkOf s.2.1 j → w.heap.size ≤ j) ∧ Kp No w w') (fun s => len - s.1) (0, none, 0) ⟨rfl, rfl, rfl, rfl, trivial⟩
    ⟨by omega, fun j hj => (by omega), Own.nil _ _ _, fun j hj => by simp [blkOf] at hj, Kp.refl _ _⟩ ?_
  rintro ⟨k, a1, cap1⟩ w1 junk ⟨hk, hj, ho, hf, k1⟩ again
  simp only at hk hj ho hf again ⊢
  have fin : (k < len → ¬ xs.getD k 0 < v) → xs.take k ++ v :: xs.drop k = putL v xs := fun h => putL_eq (by omega) hj (fun h' => h (by omega))
  by_cases hgo : k < len ∧ xs.getD k 0 < v
  · obtain ⟨hlt, hv⟩ := hgo
    rcases (hs.kpn k1).mem with ⟨rfl, h0⟩ | ⟨b, off, rfl, _, hsg⟩
    · omega
    have e2 : xs.take (k + 1) = xs.take k ++ [xs.getD k 0] := by rw [List.take_succ_eq_append_getElem (by omega), getD_lt (by omega)]
    repeat (first | refine AtR_nil ?_ | refine s_mv ?_ | refine s_as ?_ | refine s_pt ?_ | refine s_pf ?_ | refine s_nt ?_ | refine s_ex ?_ | refine s_nc ?_ | refine s_fa ?_ | refine s_ld ?_ | refine s_ia ?_ | refine s_sl ?_ | refine s_ad ?_ | refine s_sb ?_ | refine s_ln ?_ | refine s_cv ?_ | refine s_lss ?_ | refine s_leq ?_ | refine s_gtr ?_ | refine s_geq ?_ | refine s_eql ?_ | refine s_neq ?_ | refine s_eqlf ?_ | refine s_eqlp ?_ | refine s_eqln ?_ | refine s_neqf ?_ | refine s_neqp ?_ | refine s_neqn ?_ | refine At_seq ?_ | refine At_region ?_ | refine AtR_nil ?_ | refine At_block ?_ | refine At_inBlock ?_ | refine At_skip ?_ | refine At_cond_t rfl ?_ | refine At_cond_f rfl ?_ | refine At_exit rfl ?_ | refine s_no rfl rfl rfl rfl ?_ | refine s_nou rfl rfl rfl ?_ | (refine s_yes rfl rfl rfl rfl ?_; first | refine g_mv ?_ | refine g_as ?_ | refine g_pt ?_ | refine g_pf ?_ | refine g_nt ?_ | refine g_ex ?_ | refine g_nc ?_ | refine g_fa ?_ | refine g_ld ?_ | refine g_ia ?_ | refine g_sl ?_ | refine g_ad ?_ | refine g_sb ?_ | refine g_ln ?_ | refine g_cv ?_ | refine g_lss ?_ | refine g_leq ?_ | refine g_gtr ?_ | refine g_geq ?_ | refine g_eql ?_ | refine g_neq ?_ | refine g_eqlf ?_ | refine g_eqlp ?_ | refine g_eqln ?_ | refine g_neqf ?_ | refine g_neqp ?_ | refine g_neqn ?_))
    refine AtR_go rfl (AtG_buildSlice1 (ops := [_]) rfl rfl (by omega) rfl rfl rfl fun b w2 hb e3 => ?_)
    have hsrc : Src Try.prog 1 51 (.slice (some ⟨b, 0, none⟩) 1 1) 1 (ints .i64 [xs.getD k 0]) w2 := (((e3.blk : Blk w2 b 3 (0, 0) (ints .i64 [xs.getD k 0])).sl (m := 1) rfl (by omega)).src rfl)
    refine AtR_go rfl (AtG_append rfl rfl (ho.kp (e3.kp (S := No) (.inr (by omega))) (fun _ _ => id)) hsrc rfl (by omega) (by simp [maxLen]; omega) (by omega) fun a' cap' w3 ho3 k3 hfr => ?_)
    rw [← ints_snoc, ← e2] at ho3
    have hz := e3.size
    have k0 := k1.size
    repeat (first | refine AtR_nil ?_ | refine s_mv ?_ | refine s_as ?_ | refine s_pt ?_ | refine s_pf ?_ | refine s_nt ?_ | refine s_ex ?_ | refine s_nc ?_ | refine s_fa ?_ | refine s_ld ?_ | refine s_ia ?_ | refine s_sl ?_ | refine s_ad ?_ | refine s_sb ?_ | refine s_ln ?_ | refine s_cv ?_ | refine s_lss ?_ | refine s_leq ?_ | refine s_gtr ?_ | refine s_geq ?_ | refine s_eql ?_ | refine s_neq ?_ | refine s_eqlf ?_ | refine s_eqlp ?_ | refine s_eqln ?_ | refine s_neqf ?_ | refine s_neqp ?_ | refine s_neqn ?_ | refine At_seq ?_ | refine At_region ?_ | refine AtR_nil ?_ | refine At_block ?_ | refine At_inBlock ?_ | refine At_skip ?_ | refine At_cond_t rfl ?_ | refine At_cond_f rfl ?_ | refine At_exit rfl ?_ | refine s_no rfl rfl rfl rfl ?_ | refine s_nou rfl rfl rfl ?_ | (refine s_yes rfl rfl rfl rfl ?_; first | refine g_mv ?_ | refine g_as ?_ | refine g_pt ?_ | refine g_pf ?_ | refine g_nt ?_ | refine g_ex ?_ | refine g_nc ?_ | refine g_fa ?_ | refine g_ld ?_ | refine g_ia ?_ | refine g_sl ?_ | refine g_ad ?_ | refine g_sb ?_ | refine g_ln ?_ | refine g_cv ?_ | refine g_lss ?_ | refine g_leq ?_ | refine g_gtr ?_ | refine g_geq ?_ | refine g_eql ?_ | refine g_neq ?_ | refine g_eqlf ?_ | refine g_eqlp ?_ | refine g_eqln ?_ | refine g_neqf ?_ | refine g_neqp ?_ | refine g_neqn ?_))
    refine again (k + 1, a', cap') _ _ ⟨rfl, rfl, rfl, rfl, trivial⟩ ?_ (by omega)
    simp only
    refine ⟨hlt, fun j hj2 => ?_, ho3, ?_, ?_⟩
    · by_cases e : j = k
      · rw [e]; exact hv
      · exact hj j (by omega)
    · rcases hfr with rfl | ⟨b', rfl, hb'⟩
      · exact hf
      · intro j hj; simp [blkOf] at hj; omega
    · exact (k1.trans (e3.kp (S := No) (.inr (by omega)))).trans' k3 fun j hj => .inr (hf j hj)
  · have hstop : k < len → ¬ xs.getD k 0 < v := fun h1 h2 => hgo ⟨h1, h2⟩
    have hgoal := fin hstop
    have stop : ∀ {R : Prop}, (¬ k < len → R) → (k < len → ¬ xs.getD k 0 < v → R) → R := fun f g => by
      by_cases h : k < len
      · exact g h (hstop h)
      · exact f h
    have hs1 := hs.kpn k1
    rcases Nat.lt_or_ge k len with hlt | hge
    · have hv := hstop hlt
      rcases hs1.mem with ⟨rfl, h0⟩ | ⟨b, off, rfl, _, hsg⟩
      · omega
      repeat (first | refine AtR_nil ?_ | refine s_mv ?_ | refine s_as ?_ | refine s_pt ?_ | refine s_pf ?_ | refine s_nt ?_ | refine s_ex ?_ | refine s_nc ?_ | refine s_fa ?_ | refine s_ld ?_ | refine s_ia ?_ | refine s_sl ?_ | refine s_ad ?_ | refine s_sb ?_ | refine s_ln ?_ | refine s_cv ?_ | refine s_lss ?_ | refine s_leq ?_ | refine s_gtr ?_ | refine s_geq ?_ | refine s_eql ?_ | refine s_neq ?_ | refine s_eqlf ?_ | refine s_eqlp ?_ | refine s_eqln ?_ | refine s_neqf ?_ | refine s_neqp ?_ | refine s_neqn ?_ | refine At_seq ?_ | refine At_region ?_ | refine AtR_nil ?_ | refine At_block ?_ | refine At_inBlock ?_ | refine At_skip ?_ | refine At_cond_t rfl ?_ | refine At_cond_f rfl ?_ | refine At_exit rfl ?_ | refine s_no rfl rfl rfl rfl ?_ | refine s_nou rfl rfl rfl ?_ | (refine s_yes rfl rfl rfl rfl ?_; first | refine g_mv ?_ | refine g_as ?_ | refine g_pt ?_ | refine g_pf ?_ | refine g_nt ?_ | refine g_ex ?_ | refine g_nc ?_ | refine g_fa ?_ | refine g_ld ?_ | refine g_ia ?_ | refine g_sl ?_ | refine g_ad ?_ | refine g_sb ?_ | refine g_ln ?_ | refine g_cv ?_ | refine g_lss ?_ | refine g_leq ?_ | refine g_gtr ?_ | refine g_geq ?_ | refine g_eql ?_ | refine g_neq ?_ | refine g_eqlf ?_ | refine g_eqlp ?_ | refine g_eqln ?_ | refine g_neqf ?_ | refine g_neqp ?_ | refine g_neqn ?_))
      refine AtR_go rfl (AtG_buildSlice1 (ops := [_]) rfl rfl (by omega) rfl rfl rfl fun b w2 hb e3 => ?_)
      have hsrc : Src Try.prog 1 51 (.slice (some ⟨b, 0, none⟩) 1 1) 1 (ints .i64 [v]) w2 := (((e3.blk : Blk w2 b 3 (0, 0) (ints .i64 [v])).sl (m := 1) rfl (by omega)).src rfl)
      refine AtR_go rfl (AtG_append rfl rfl (ho.kp (e3.kp (S := No) (.inr (by omega))) (fun _ _ => id)) hsrc rfl (by omega) (by simp [maxLen]; omega) (by omega) fun a' cap' w3 ho3 k3 hfr => ?_)
      rw [← ints_snoc] at ho3
      have hz := e3.size
      have k0 := k1.size
      have hf3 : ∀ j, blkOf a' j → w.heap.size ≤ j := by
        rcases hfr with rfl | ⟨b', rfl, hb'⟩
        · exact hf
        · intro j hj; simp [blkOf] at hj; omega
      have K3 : Kp No w w3 := (k1.trans (e3.kp (S := No) (.inr (by omega)))).trans' k3 fun j hj => .inr (hf j hj)
      repeat (first | refine AtR_nil ?_ | refine s_mv ?_ | refine s_as ?_ | refine s_pt ?_ | refine s_pf ?_ | refine s_nt ?_ | refine s_ex ?_ | refine s_nc ?_ | refine s_fa ?_ | refine s_ld ?_ | refine s_ia ?_ | refine s_sl ?_ | refine s_ad ?_ | refine s_sb ?_ | refine s_ln ?_ | refine s_cv ?_ | refine s_lss ?_ | refine s_leq ?_ | refine s_gtr ?_ | refine s_geq ?_ | refine s_eql ?_ | refine s_neq ?_ | refine s_eqlf ?_ | refine s_eqlp ?_ | refine s_eqln ?_ | refine s_neqf ?_ | refine s_neqp ?_ | refine s_neqn ?_ | refine At_seq ?_ | refine At_region ?_ | refine AtR_nil ?_ | refine At_block ?_ | refine At_inBlock ?_ | refine At_skip ?_ | refine At_cond_t rfl ?_ | refine At_cond_f rfl ?_ | refine At_exit rfl ?_ | refine s_no rfl rfl rfl rfl ?_ | refine s_nou rfl rfl rfl ?_ | (refine s_yes rfl rfl rfl rfl ?_; first | refine g_mv ?_ | refine g_as ?_ | refine g_pt ?_ | refine g_pf ?_ | refine g_nt ?_ | refine g_ex ?_ | refine g_nc ?_ | refine g_fa ?_ | refine g_ld ?_ | refine g_ia ?_ | refine g_sl ?_ | refine g_ad ?_ | refine g_sb ?_ | refine g_ln ?_ | refine g_cv ?_ | refine g_lss ?_ | refine g_leq ?_ | refine g_gtr ?_ | refine g_geq ?_ | refine g_eql ?_ | refine g_neq ?_ | refine g_eqlf ?_ | refine g_eqlp ?_ | refine g_eqln ?_ | refine g_neqf ?_ | refine g_neqp ?_ | refine g_neqn ?_))
      refine AtR_go rfl (G_val (r_drop (hs.kpn K3) hk rfl rfl) ?_)
      rintro _ _ ⟨a4, rfl, hs4, rfl⟩
      have hsrc4 : Src Try.prog 1 51 (.slice a4 (len - k) (cap - k)) (len - k) (ints .i64 (xs.drop k)) w3 := hs4.src rfl
      refine AtR_go rfl (AtG_append rfl rfl ho3 hsrc4 rfl (by omega) (by simp [maxLen]; omega) (by omega) fun a5 cap5 w5 ho5 k5 hfr5 => ?_)
      rw [← ints_app, List.append_assoc, List.cons_append, List.nil_append, hgoal] at ho5
      have hz3 := K3.size
      have el : (putL v xs).length = k + 1 + (len - k) := by
        rw [← hgoal]; simp; omega
      repeat (first | refine AtR_nil ?_ | refine s_mv ?_ | refine s_as ?_ | refine s_pt ?_ | refine s_pf ?_ | refine s_nt ?_ | refine s_ex ?_ | refine s_nc ?_ | refine s_fa ?_ | refine s_ld ?_ | refine s_ia ?_ | refine s_sl ?_ | refine s_ad ?_ | refine s_sb ?_ | refine s_ln ?_ | refine s_cv ?_ | refine s_lss ?_ | refine s_leq ?_ | refine s_gtr ?_ | refine s_geq ?_ | refine s_eql ?_ | refine s_neq ?_ | refine s_eqlf ?_ | refine s_eqlp ?_ | refine s_eqln ?_ | refine s_neqf ?_ | refine s_neqp ?_ | refine s_neqn ?_ | refine At_seq ?_ | refine At_region ?_ | refine AtR_nil ?_ | refine At_block ?_ | refine At_inBlock ?_ | refine At_skip ?_ | refine At_cond_t rfl ?_ | refine At_cond_f rfl ?_ | refine At_exit rfl ?_ | refine s_no rfl rfl rfl rfl ?_ | refine s_nou rfl rfl rfl ?_ | (refine s_yes rfl rfl rfl rfl ?_; first | refine g_mv ?_ | refine g_as ?_ | refine g_pt ?_ | refine g_pf ?_ | refine g_nt ?_ | refine g_ex ?_ | refine g_nc ?_ | refine g_fa ?_ | refine g_ld ?_ | refine g_ia ?_ | refine g_sl ?_ | refine g_ad ?_ | refine g_sb ?_ | refine g_ln ?_ | refine g_cv ?_ | refine g_lss ?_ | refine g_leq ?_ | refine g_gtr ?_ | refine g_geq ?_ | refine g_eql ?_ | refine g_neq ?_ | refine g_eqlf ?_ | refine g_eqlp ?_ | refine g_eqln ?_ | refine g_neqf ?_ | refine g_neqp ?_ | refine g_neqn ?_))
      refine At_ret1 Try.func38 rfl (by conv => lhs; whnf) ?_
      refine ⟨a5, cap5, by rw [el], by rw [el]; exact ho5, ?_, K3.trans' k5 fun j hj => .inr (hf3 j hj)⟩
      rcases hfr5 with rfl | ⟨b', rfl, hb'⟩
      · exact hf3
      · intro j hj; simp [blkOf] at hj; omega
    · repeat (first | refine AtR_nil ?_ | refine s_mv ?_ | refine s_as ?_ | refine s_pt ?_ | refine s_pf ?_ | refine s_nt ?_ | refine s_ex ?_ | refine s_nc ?_ | refine s_fa ?_ | refine s_ld ?_ | refine s_ia ?_ | refine s_sl ?_ | refine s_ad ?_ | refine s_sb ?_ | refine s_ln ?_ | refine s_cv ?_ | refine s_lss ?_ | refine s_leq ?_ | refine s_gtr ?_ | refine s_geq ?_ | refine s_eql ?_ | refine s_neq ?_ | refine s_eqlf ?_ | refine s_eqlp ?_ | refine s_eqln ?_ | refine s_neqf ?_ | refine s_neqp ?_ | refine s_neqn ?_ | refine At_seq ?_ | refine At_region ?_ | refine AtR_nil ?_ | refine At_block ?_ | refine At_inBlock ?_ | refine At_skip ?_ | refine At_cond_t rfl ?_ | refine At_cond_f rfl ?_ | refine At_exit rfl ?_ | refine s_no rfl rfl rfl rfl ?_ | refine s_nou rfl rfl rfl ?_ | (refine s_yes rfl rfl rfl rfl ?_; first | refine g_mv ?_ | refine g_as ?_ | refine g_pt ?_ | refine g_pf ?_ | refine g_nt ?_ | refine g_ex ?_ | refine g_nc ?_ | refine g_fa ?_ | refine g_ld ?_ | refine g_ia ?_ | refine g_sl ?_ | refine g_ad ?_ | refine g_sb ?_ | refine g_ln ?_ | refine g_cv ?_ | refine g_lss ?_ | refine g_leq ?_ | refine g_gtr ?_ | refine g_geq ?_ | refine g_eql ?_ | refine g_neq ?_ | refine g_eqlf ?_ | refine g_eqlp ?_ | refine g_eqln ?_ | refine g_neqf ?_ | refine g_neqp ?_ | refine g_neqn ?_))
      refine AtR_go rfl (AtG_buildSlice1 (ops := [_]) rfl rfl (by omega) rfl rfl rfl fun b w2 hb e3 => ?_)
      have hsrc : Src Try.prog 1 51 (.slice (some ⟨b, 0, none⟩) 1 1) 1 (ints .i64 [v]) w2 := (((e3.blk : Blk w2 b 3 (0, 0) (ints .i64 [v])).sl (m := 1) rfl (by omega)).src rfl)
      refine AtR_go rfl (AtG_append rfl rfl (ho.kp (e3.kp (S := No) (.inr (by omega))) (fun _ _ => id)) hsrc rfl (by omega) (by simp [maxLen]; omega) (by omega) fun a' cap' w3 ho3 k3 hfr => ?_)
      rw [← ints_snoc] at ho3
      have hz := e3.size
      have k0 := k1.size
      have hf3 : ∀ j, blkOf a' j → w.heap.size ≤ j := by
        rcases hfr with rfl | ⟨b', rfl, hb'⟩
        · exact hf
        · intro j hj; simp [blkOf] at hj; omega
      have K3 : Kp No w w3 := (k1.trans (e3.kp (S := No) (.inr (by omega)))).trans' k3 fun j hj => .inr (hf j hj)
      repeat (first | refine AtR_nil ?_ | refine s_mv ?_ | refine s_as ?_ | refine s_pt ?_ | refine s_pf ?_ | refine s_nt ?_ | refine s_ex ?_ | refine s_nc ?_ | refine s_fa ?_ | refine s_ld ?_ | refine s_ia ?_ | refine s_sl ?_ | refine s_ad ?_ | refine s_sb ?_ | refine s_ln ?_ | refine s_cv ?_ | refine s_lss ?_ | refine s_leq ?_ | refine s_gtr ?_ | refine s_geq ?_ | refine s_eql ?_ | refine s_neq ?_ | refine s_eqlf ?_ | refine s_eqlp ?_ | refine s_eqln ?_ | refine s_neqf ?_ | refine s_neqp ?_ | refine s_neqn ?_ | refine At_seq ?_ | refine At_region ?_ | refine AtR_nil ?_ | refine At_block ?_ | refine At_inBlock ?_ | refine At_skip ?_ | refine At_cond_t rfl ?_ | refine At_cond_f rfl ?_ | refine At_exit rfl ?_ | refine s_no rfl rfl rfl rfl ?_ | refine s_nou rfl rfl rfl ?_ | (refine s_yes rfl rfl rfl rfl ?_; first | refine g_mv ?_ | refine g_as ?_ | refine g_pt ?_ | refine g_pf ?_ | refine g_nt ?_ | refine g_ex ?_ | refine g_nc ?_ | refine g_fa ?_ | refine g_ld ?_ | refine g_ia ?_ | refine g_sl ?_ | refine g_ad ?_ | refine g_sb ?_ | refine g_ln ?_ | refine g_cv ?_ | refine g_lss ?_ | refine g_leq ?_ | refine g_gtr ?_ | refine g_geq ?_ | refine g_eql ?_ | refine g_neq ?_ | refine g_eqlf ?_ | refine g_eqlp ?_ | refine g_eqln ?_ | refine g_neqf ?_ | refine g_neqp ?_ | refine g_neqn ?_))
      refine AtR_go rfl (G_val (r_drop (hs.kpn K3) hk rfl rfl) ?_)
      rintro _ _ ⟨a4, rfl, hs4, rfl⟩
      have hsrc4 : Src Try.prog 1 51 (.slice a4 (len - k) (cap - k)) (len - k) (ints .i64 (xs.drop k)) w3 := hs4.src rfl
      refine AtR_go rfl (AtG_append rfl rfl ho3 hsrc4 rfl (by omega) (by simp [maxLen]; omega) (by omega) fun a5 cap5 w5 ho5 k5 hfr5 => ?_)
      rw [← ints_app, List.append_assoc, List.cons_append, List.nil_append, hgoal] at ho5
      have hz3 := K3.size
      have el : (putL v xs).length = k + 1 + (len - k) := by
        rw [← hgoal]; simp; omega
      repeat (first | refine AtR_nil ?_ | refine s_mv ?_ | refine s_as ?_ | refine s_pt ?_ | refine s_pf ?_ | refine s_nt ?_ | refine s_ex ?_ | refine s_nc ?_ | refine s_fa ?_ | refine s_ld ?_ | refine s_ia ?_ | refine s_sl ?_ | refine s_ad ?_ | refine s_sb ?_ | refine s_ln ?_ | refine s_cv ?_ | refine s_lss ?_ | refine s_leq ?_ | refine s_gtr ?_ | refine s_geq ?_ | refine s_eql ?_ | refine s_neq ?_ | refine s_eqlf ?_ | refine s_eqlp ?_ | refine s_eqln ?_ | refine s_neqf ?_ | refine s_neqp ?_ | refine s_neqn ?_ | refine At_seq ?_ | refine At_region ?_ | refine AtR_nil ?_ | refine At_block ?_ | refine At_inBlock ?_ | refine At_skip ?_ | refine At_cond_t rfl ?_ | refine At_cond_f rfl ?_ | refine At_exit rfl ?_ | refine s_no rfl rfl rfl rfl ?_ | refine s_nou rfl rfl rfl ?_ | (refine s_yes rfl rfl rfl rfl ?_; first | refine g_mv ?_ | refine g_as ?_ | refine g_pt ?_ | refine g_pf ?_ | refine g_nt ?_ | refine g_ex ?_ | refine g_nc ?_ | refine g_fa ?_ | refine g_ld ?_ | refine g_ia ?_ | refine g_sl ?_ | refine g_ad ?_ | refine g_sb ?_ | refine g_ln ?_ | refine g_cv ?_ | refine g_lss ?_ | refine g_leq ?_ | refine g_gtr ?_ | refine g_geq ?_ | refine g_eql ?_ | refine g_neq ?_ | refine g_eqlf ?_ | refine g_eqlp ?_ | refine g_eqln ?_ | refine g_neqf ?_ | refine g_neqp ?_ | refine g_neqn ?_))
      refine At_ret1 Try.func38 rfl (by conv => lhs; whnf) ?_
      refine ⟨a5, cap5, by rw [el], by rw [el]; exact ho5, ?_, K3.trans' k5 fun j hj => .inr (hf3 j hj)⟩
      rcases hfr5 with rfl | ⟨b', rfl, hb'⟩
      · exact hf3
      · intro j hj; simp [blkOf] at hj; omega
end Go.Proofs.Ytogfkmejgjodaaa
