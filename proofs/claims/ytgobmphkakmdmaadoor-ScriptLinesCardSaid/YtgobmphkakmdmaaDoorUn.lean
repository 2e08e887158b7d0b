/- Slices of structs built; the law's example and bounds: walked. -/
import Derived.Test.YtgobmphkakmdmaaDoorUm
set_option linter.unusedVariables false
namespace Go.Kx
open Go
section
variable {P : Program} {n : Nat} {env : Env} {w : World} {dst : Option Tmp} {ty : TypeId} {pos : String} {aft : Array Edge} {g : Option (Nat × Bool)}
theorem r_buildSlice0 {T E : TypeId} {s : Nat} [hT : TU P T (.slice E)] [hS : TSz P E s] :
    ∃ v w', Run P n env ⟨dst, .buildSlice T 0 #[], ty, pos, aft, g⟩ w (.ok (.value v) w') ∧ ∃ b, v = .slice (some ⟨b, 0, none⟩) 0 0 ∧ b = w.heap.size ∧ Eff w w' b (.cells ([] : List Value).toArray E (0, 0)) := by
  refine ⟨_, { w with heap := w.heap.push (.cells ([] : List Value).toArray E (0, 0)) }, ?_, w.heap.size, rfl, rfl, eff_push w _⟩
  unfold Run
  simp [execOp, Instr.buildSlice, run_underlying hT.h, run_sizeOf hS.h, newRow, Instr.fill, Array.range_zero']
theorem r_buildSliceA2 {T E : TypeId} {s : Nat} {z : Value} [hT : TU P T (.slice E)] [hZ : TZ P E z] [hS : TSz P E s] {x y : Operand} {vs us : List Value} (hx : ev n env x = .agg vs.toArray) (hy : ev n env y = .agg us.toArray) (hl : vs.length = s) (hl2 : us.length = s) (hz : z.cells.size = s) (h0 : 0 < s := by decide) (hm : 2 * s ≤ 16777216 := by decide) :
    ∃ v w', Run P n env ⟨dst, .buildSlice T 2 #[(0, x), (1, y)], ty, pos, aft, g⟩ w (.ok (.value v) w') ∧ ∃ b, v = .slice (some ⟨b, 0, none⟩) 2 2 ∧ b = w.heap.size ∧ Eff w w' b (.cells (vs ++ us).toArray E (0, 0)) := by
  refine ⟨_, { w with heap := w.heap.push (.cells (vs ++ us).toArray E (0, 0)) }, ?_, w.heap.size, rfl, rfl, eff_push w _⟩
  have hzl : z.cells.toList.length = s := by simpa using hz
  have hall : ((Array.range (2 * s)).map (fun x => z.cells[x % z.cells.size]!)) = (z.cells.toList ++ z.cells.toList).toArray := by
    apply Array.ext
    · simp [hz]; omega
    · intro i h1 h2
      have h3 : i < 2 * s := by simpa using h1
      rw [Array.getElem_map, Array.getElem_range, hz]
      simp only [List.getElem_toArray]
      have h4 : i % s < z.cells.size := by rw [hz]; exact Nat.mod_lt _ h0
      rw [getElem!_pos z.cells (i % s) h4]
      by_cases h5 : i < s
      · rw [List.getElem_append_left (by omega)]
        simp [Nat.mod_eq_of_lt h5]
      · rw [List.getElem_append_right (by omega)]
        simp only [hzl, Array.getElem_toList]
        congr 1
        rw [Nat.mod_eq_sub_mod (by omega), Nat.mod_eq_of_lt (by omega)]
  have hf : Instr.fill (fun i => some (i * s, s)) (z.cells.toList ++ z.cells.toList).toArray [(0, .agg vs.toArray), (1, .agg us.toArray)] = some (vs ++ us).toArray := by
    rw [fill_agg (place := fun i => some (i * s, s)) (cs := z.cells.toList ++ z.cells.toList) (vs := vs) (i := 0) (off := 0) (s := s) (rest := [(1, .agg us.toArray)]) (by simp) hl (by simp; omega)]
    have e : lay (z.cells.toList ++ z.cells.toList) 0 vs = vs ++ z.cells.toList := by
      simp only [lay, List.take_zero, List.nil_append, Nat.zero_add]
      rw [hl, ← hzl, List.drop_left]
    rw [e, fill_agg (place := fun i => some (i * s, s)) (cs := vs ++ z.cells.toList) (vs := us) (i := 1) (off := s) (s := s) (rest := []) (by simp) hl2 (by simp; omega)]
    have e2 : lay (vs ++ z.cells.toList) s us = vs ++ us := by
      simp only [lay]
      rw [← hl, List.take_left, List.drop_of_length_le (by simp; omega), List.append_nil]
    rw [e2]; rfl
  unfold Run
  have h1 : ¬ (2 * s > 2 ^ 24) := by omega
  have h2 : ¬ (2 * s = 0) := by omega
  simp only [execOp, Instr.buildSlice, Sem.run_bind, run_underlying hT.h, Result.andThen_ok, run_sizeOf hS.h, Sem.run_ite, h1, h2, if_false, run_zeroValue, Sem.run_pure, hall, hx, hy, List.map_cons, List.map_nil, List.map_toArray, hf, newRow]
  rfl
end
end Go.Kx
namespace Go.Proofs.YtgobmphkakmdmaaDoor
open Go Go.Kx Go.Sc
/-- The document's example. -/
def exD : DeedC := { (default : DeedC) with kind := 6, path := [47, 97, 32, 98], m := 493 }
theorem itoa0 : Lib.itoa 0 = [48] := by
  unfold Lib.itoa
  rw [if_neg (by omega)]
  show Lib.decDigits 0 = _
  rw [dec_small (by omega)]; rfl
theorem itoa493 : Lib.itoa 493 = [52, 57, 51] := by
  unfold Lib.itoa
  rw [if_neg (by omega)]
  show Lib.decDigits 493 = _
  rw [dec_big (by omega), show 493 / 10 = 49 from rfl, dec_big (by omega), show 49 / 10 = 4 from rfl, dec_small (by omega)]; rfl
theorem lineD_ex : lineD exD.plain = [109, 107, 100, 105, 114, 32, 47, 97, 37, 50, 48, 98, 32, 52, 57, 51] := by
  show line 32 [nameB 6, wordB [47, 97, 32, 98], Lib.itoa 493] = _
  rw [itoa493]
  decide +kernel
theorem clean_ex : cleanB exD = true := by
  refine List.all_eq_true.2 fun f _ => ?_
  cases f <;> first | rfl | (simp [flds, fldsL, exD, DeedC.plain, Sc.part]; try rfl)
theorem prn_ex : prn [exD] = ([109, 107, 100, 105, 114, 32, 47, 97, 37, 50, 48, 98, 32, 52, 57, 51, 10], 0) := by
  have he : errD exD = 0 := by
    unfold errD
    rw [if_neg (by decide), if_neg (by rw [clean_ex]; decide), if_neg (by rw [lineD_ex]; decide)]
  have h0 : (prn [exD]).2 = 0 := goD_ok.2 fun x hx => by rw [List.mem_singleton.1 hx]; exact he
  have h1 : (prn [exD]).1 = txt [exD] := goD_text h0
  refine Prod.ext ?_ h0
  rw [h1]
  simp [txt, lineD_ex]
theorem sld_one {w : World} {b : Nat} {x : DeedC} {fz : Nat × Nat} {E : TypeId} {D : Nat → Prop} (hb : Blk w b E fz (dC x)) (h : DOk w x D) (hd : D b) : SlD w (some ⟨b, 0, none⟩) 1 1 [x] D :=
  ⟨rfl, Nat.le_refl _, by decide, .inr ⟨b, 0, rfl, hb.lt, hd, fun j hj => by
    have h0 : j = 0 := (by omega)
    subst h0
    exact hb.seg⟩, fun y hy => by rw [List.mem_singleton.1 hy]; exact h⟩
theorem built_ex : Tryd.prog.built 32 [(0, .int .i64 6), (4, strV [47, 97, 32, 98]), (2, .int .i64 493)] = some (dC exD).toArray := by kernel_rfl
set_option maxRecDepth 100000 in
set_option maxHeartbeats 4000000 in
theorem awake_calls (w : World) (hL : Lad w) :
    Calls Tryd.prog 5 #[] w fun e w' => e = .returned (.bool true) ∧ Kp No w w' := by
  refine calls_at (n := 15) Tryd.func5 rfl rfl (by simp) ?_
  (refine At_seq ?_; refine At_region ?_; refine s_as ?_; refine AtR_nil ?_; refine At_seq ?_; refine At_region ?_)
  refine s_val (x_build rfl built_ex) ?_
  refine AtR_go rfl (G_val (r_buildSliceA rfl rfl rfl) ?_)
  rintro _ w1 ⟨b1, rfl, hb1, e1⟩
  have k1 : Kp No w w1 := e1.kp (.inr (by omega))
  have B1 : Blk w1 b1 32 (0, 0) (dC exD) := e1.blk
  clear e1
  have hok : DOk w1 exD (fun _ => True) := ⟨⟨rfl, Nat.le_refl _, by decide, .inl rfl⟩, ⟨rfl, Nat.le_refl _, by decide, .inl rfl⟩, ⟨by decide, by decide⟩, ⟨by decide, by decide⟩, ⟨by decide, by decide⟩, ⟨by decide, by decide⟩, fun n h => by cases h⟩
  refine s_call x_call (print_calls [exD] _ 1 _ (sld_one B1 hok trivial) (fun x hx => by rw [List.mem_singleton.1 hx]; exact ⟨by decide, by decide, by decide, by decide⟩) (by decide) (hL.kpn k1)) ?_
  rintro _ w2 ⟨rfl, k2⟩
  refine ⟨_, rfl, ?_⟩
  rw [prn_ex]
  (refine s_mv ?_; refine s_ex ?_; refine s_ex ?_; refine s_as ?_; refine s_as ?_; refine AtR_nil ?_; refine At_seq ?_; refine At_region ?_; refine s_mv ?_; refine s_eql ?_; refine s_mv ?_; refine s_yes rfl rfl rfl rfl ?_; refine g_mv ?_)
  refine s_yes rfl rfl rfl rfl ?_
  refine g_bool (x_eql_str (m := [109, 107, 100, 105, 114, 32, 47, 97, 37, 50, 48, 98, 32, 52, 57, 51, 10]) rfl rfl) (decide_eq_true rfl) ?_
  (refine s_pt ?_; refine s_as ?_; refine AtR_nil ?_)
  refine At_ret1 Tryd.func5 rfl (by conv => lhs; whnf) ?_
  exact ⟨rfl, k1.trans k2⟩
/-- Not too great, as the law asks. -/
def smD (x : DeedC) : Prop := x.path.length ≤ 2000 ∧ x.as_.length ≤ 500 ∧ x.b.length ≤ 2000 ∧ x.keep.length ≤ 40
instance (x : DeedC) : Decidable (smD x) := by unfold smD; infer_instance
def smL (xs : List DeedC) : Bool := decide (xs.length ≤ 20) && xs.all fun x => decide (smD x)
theorem smL_t {xs : List DeedC} (h : smL xs = true) : xs.length ≤ 20 ∧ ∀ x ∈ xs, smD x := by
  unfold smL at h
  rw [Bool.and_eq_true] at h
  exact ⟨of_decide_eq_true h.1, fun x hx => of_decide_eq_true (List.all_eq_true.1 h.2 x hx)⟩
theorem smD.sm {x : DeedC} (h : smD x) : DSm x := by
  obtain ⟨h1, h2, h3, h4⟩ := h
  exact ⟨by omega, by omega, by omega, by omega⟩
set_option maxRecDepth 100000 in
set_option maxHeartbeats 4000000 in
theorem small_calls (xs : List DeedC) (a : Option Addr) (cap : Nat) (w : World) {D : Nat → Prop} (hs : SlD w a xs.length cap xs D) :
    Calls Tryd.prog 6 #[.slice a xs.length cap] w fun e w' => e = .returned (.bool (smL xs)) ∧ w = w' := by
  refine calls_at (n := 47) Tryd.func6 rfl rfl (by simp) ?_
  have hle := hs.le
  have hmx := hs.max
  by_cases h20 : 20 < xs.length
  · (refine At_seq ?_; refine At_region ?_; refine s_as ?_; refine AtR_nil ?_; refine At_seq ?_; refine At_seq ?_; refine At_region ?_; refine s_mv ?_; refine s_ln ?_; refine s_gtr ?_; refine AtR_nil ?_; refine At_cond_t rfl ?_; refine At_seq ?_; refine At_region ?_; refine s_as ?_; refine AtR_nil ?_)
    refine At_ret1 Tryd.func6 rfl (by conv => lhs; whnf) ?_
    refine ⟨?_, rfl⟩
    have : smL xs = false := by unfold smL; rw [decide_eq_false (by omega), Bool.false_and]
    rw [this]
  (refine At_seq ?_; refine At_region ?_; refine s_as ?_; refine AtR_nil ?_; refine At_seq ?_; refine At_seq ?_; refine At_region ?_; refine s_mv ?_; refine s_ln ?_; refine s_gtr ?_; refine AtR_nil ?_; refine At_cond_f rfl ?_; refine At_skip ?_; refine At_seq ?_; refine At_seq ?_; refine At_region ?_; refine s_as ?_; refine AtR_nil ?_; refine At_block ?_)
  refine At_while (fun i : Nat => [(0, .slice a xs.length cap), (3, .int .i64 (i : Int))])
    (fun i w' => i ≤ xs.length ∧ (∀ x ∈ xs.take i, smD x) ∧ w = w') (fun i => xs.length - i) 0 ⟨rfl, rfl, trivial⟩ ⟨by omega, fun x hx => by simp at hx, rfl⟩ ?_
  rintro i w2 junk ⟨hi, hok, rfl⟩ again
  by_cases hlt : i < xs.length
  · obtain ⟨b, off, rfl, hb, hd, hseg, hmem, hdok⟩ := hs.get hlt
    have htk : xs.take (i + 1) = xs.take i ++ [xs.getD i default] := by
      have e : xs.getD i default = xs[i] := by simp [List.getD, hlt]
      rw [e, List.take_succ_eq_append_getElem hlt]
    have fin : ¬ smD (xs.getD i default) → smL xs = false := fun h => by
      rw [Bool.eq_false_iff]
      intro h2
      exact h ((smL_t h2).2 _ hmem)
    generalize xs.getD i default = x at *
    (refine At_seq ?_; refine At_seq ?_; refine At_region ?_; refine s_mv ?_; refine s_mv ?_; refine s_ln ?_; refine s_lss ?_; refine AtR_nil ?_; refine At_cond_t rfl ?_; refine At_skip ?_; refine At_seq ?_; refine At_block ?_; refine At_seq ?_; refine At_region ?_; refine s_mv ?_; refine s_mv ?_)
    refine s_val (x_indexAddr (s := 8) rfl rfl (by omega) (by omega)) ?_
    rw [Int.toNat_natCast]
    (refine s_fa ?_)
    refine s_val (x_load_seg (j := 4) rfl hseg rfl) ?_
    by_cases c1 : 2000 < x.path.length
    · (refine s_lns ?_; refine s_gtr ?_; refine s_mv ?_; refine s_no rfl rfl rfl rfl ?_; refine s_no rfl rfl rfl rfl ?_; refine s_no rfl rfl rfl rfl ?_; refine s_no rfl rfl rfl rfl ?_; refine s_no rfl rfl rfl rfl ?_; refine s_no rfl rfl rfl rfl ?_; refine s_no rfl rfl rfl rfl ?_; refine s_pt ?_; refine s_mv ?_; refine s_no rfl rfl rfl rfl ?_; refine s_no rfl rfl rfl rfl ?_; refine s_no rfl rfl rfl rfl ?_; refine s_no rfl rfl rfl rfl ?_; refine s_no rfl rfl rfl rfl ?_; refine s_no rfl rfl rfl rfl ?_; refine s_no rfl rfl rfl rfl ?_; refine s_pt ?_; refine s_mv ?_; refine s_no rfl rfl rfl rfl ?_; refine s_no rfl rfl rfl rfl ?_; refine s_no rfl rfl rfl rfl ?_; refine s_no rfl rfl rfl rfl ?_; refine s_no rfl rfl rfl rfl ?_; refine s_no rfl rfl rfl rfl ?_; refine s_no rfl rfl rfl rfl ?_; refine s_pt ?_; refine AtR_nil ?_; refine At_cond_t rfl ?_; refine At_seq ?_; refine At_region ?_; refine s_as ?_; refine AtR_nil ?_)
      refine At_ret1 Tryd.func6 rfl (by conv => lhs; whnf) ?_
      rw [fin (fun h => by unfold smD at h; omega)]
      exact ⟨rfl, rfl⟩
    (refine s_lns ?_; refine s_gtr ?_; refine s_mv ?_; refine s_yes rfl rfl rfl rfl ?_; refine g_mv ?_; refine s_yes rfl rfl rfl rfl ?_; refine g_mv ?_)
    refine s_yes rfl rfl rfl rfl ?_
    refine g_val (x_indexAddr (s := 8) rfl rfl (by omega) (by omega)) ?_
    rw [Int.toNat_natCast]
    (refine s_yes rfl rfl rfl rfl ?_; refine g_fa ?_)
    refine s_yes rfl rfl rfl rfl ?_
    refine g_val (x_load_seg (j := 5) rfl hseg rfl) ?_
    refine s_yes rfl rfl rfl rfl ?_
    refine g_val (x_len_str rfl) ?_
    by_cases c2 : 500 < x.as_.length
    · (refine s_yes rfl rfl rfl rfl ?_; refine g_gtr ?_; refine s_pf ?_; refine s_mv ?_; refine s_no rfl rfl rfl rfl ?_; refine s_no rfl rfl rfl rfl ?_; refine s_no rfl rfl rfl rfl ?_; refine s_no rfl rfl rfl rfl ?_; refine s_no rfl rfl rfl rfl ?_; refine s_no rfl rfl rfl rfl ?_; refine s_no rfl rfl rfl rfl ?_; refine s_pt ?_; refine s_mv ?_; refine s_no rfl rfl rfl rfl ?_; refine s_no rfl rfl rfl rfl ?_; refine s_no rfl rfl rfl rfl ?_; refine s_no rfl rfl rfl rfl ?_; refine s_no rfl rfl rfl rfl ?_; refine s_no rfl rfl rfl rfl ?_; refine s_no rfl rfl rfl rfl ?_; refine s_pt ?_; refine AtR_nil ?_; refine At_cond_t rfl ?_; refine At_seq ?_; refine At_region ?_; refine s_as ?_; refine AtR_nil ?_)
      refine At_ret1 Tryd.func6 rfl (by conv => lhs; whnf) ?_
      rw [fin (fun h => by unfold smD at h; omega)]
      exact ⟨rfl, rfl⟩
    (refine s_yes rfl rfl rfl rfl ?_; refine g_gtr ?_; refine s_pf ?_; refine s_mv ?_; refine s_yes rfl rfl rfl rfl ?_; refine g_mv ?_; refine s_yes rfl rfl rfl rfl ?_; refine g_mv ?_)
    refine s_yes rfl rfl rfl rfl ?_
    refine g_val (x_indexAddr (s := 8) rfl rfl (by omega) (by omega)) ?_
    rw [Int.toNat_natCast]
    (refine s_yes rfl rfl rfl rfl ?_; refine g_fa ?_)
    refine s_yes rfl rfl rfl rfl ?_
    refine g_val (x_load_seg (j := 6) rfl hseg rfl) ?_
    refine s_yes rfl rfl rfl rfl ?_
    refine g_val (x_len_slice rfl) ?_
    by_cases c3 : 2000 < x.b.length
    · (refine s_yes rfl rfl rfl rfl ?_; refine g_gtr ?_; refine s_pf ?_; refine s_mv ?_; refine s_no rfl rfl rfl rfl ?_; refine s_no rfl rfl rfl rfl ?_; refine s_no rfl rfl rfl rfl ?_; refine s_no rfl rfl rfl rfl ?_; refine s_no rfl rfl rfl rfl ?_; refine s_no rfl rfl rfl rfl ?_; refine s_no rfl rfl rfl rfl ?_; refine s_pt ?_; refine AtR_nil ?_; refine At_cond_t rfl ?_; refine At_seq ?_; refine At_region ?_; refine s_as ?_; refine AtR_nil ?_)
      refine At_ret1 Tryd.func6 rfl (by conv => lhs; whnf) ?_
      rw [fin (fun h => by unfold smD at h; omega)]
      exact ⟨rfl, rfl⟩
    (refine s_yes rfl rfl rfl rfl ?_; refine g_gtr ?_; refine s_pf ?_; refine s_mv ?_; refine s_yes rfl rfl rfl rfl ?_; refine g_mv ?_; refine s_yes rfl rfl rfl rfl ?_; refine g_mv ?_)
    refine s_yes rfl rfl rfl rfl ?_
    refine g_val (x_indexAddr (s := 8) rfl rfl (by omega) (by omega)) ?_
    rw [Int.toNat_natCast]
    (refine s_yes rfl rfl rfl rfl ?_; refine g_fa ?_)
    refine s_yes rfl rfl rfl rfl ?_
    refine g_val (x_load_seg (j := 7) rfl hseg rfl) ?_
    refine s_yes rfl rfl rfl rfl ?_
    refine g_val (x_len_slice rfl) ?_
    by_cases c4 : 40 < x.keep.length
    · (refine s_yes rfl rfl rfl rfl ?_; refine g_gtr ?_; refine s_pf ?_; refine AtR_nil ?_; refine At_cond_t rfl ?_; refine At_seq ?_; refine At_region ?_; refine s_as ?_; refine AtR_nil ?_)
      refine At_ret1 Tryd.func6 rfl (by conv => lhs; whnf) ?_
      rw [fin (fun h => by unfold smD at h; omega)]
      exact ⟨rfl, rfl⟩
    (refine s_yes rfl rfl rfl rfl ?_; refine g_gtr ?_; refine s_pf ?_; refine AtR_nil ?_; refine At_cond_f rfl ?_; refine At_skip ?_; refine At_inBlock ?_; refine At_region ?_; refine s_mv ?_; refine s_ad ?_; refine s_as ?_; refine AtR_nil ?_)
    refine again (i + 1) _ _ ⟨rfl, rfl, trivial⟩ ⟨hlt, fun y hy => ?_, rfl⟩ (by omega)
    rw [htk] at hy
    rcases List.mem_append.1 hy with hy | hy
    · exact hok y hy
    · rw [List.mem_singleton.1 hy]; exact ⟨by omega, by omega, by omega, by omega⟩
  · obtain rfl : i = xs.length := by omega
    rw [List.take_length] at hok
    (refine At_seq ?_; refine At_seq ?_; refine At_region ?_; refine s_mv ?_; refine s_mv ?_; refine s_ln ?_; refine s_lss ?_; refine AtR_nil ?_; refine At_cond_f rfl ?_; refine At_exit rfl ?_; refine At_seq ?_; refine At_region ?_; refine s_as ?_; refine AtR_nil ?_)
    refine At_ret1 Tryd.func6 rfl (by conv => lhs; whnf) ?_
    refine ⟨?_, rfl⟩
    have : smL xs = true := by
      unfold smL
      rw [decide_eq_true (by omega), Bool.true_and]
      exact List.all_eq_true.2 fun x hx => decide_eq_true (hok x hx)
    rw [this]
end Go.Proofs.YtgobmphkakmdmaaDoor
