/- The document's deeds (Only, Same): walked. -/
import Derived.Test.YtgobmphkakmdmaaDoorUt
set_option linter.unusedVariables false
namespace Go.Proofs.YtgobmphkakmdmaaDoor
open Go Go.Kx Go.Sc
/-- A deed with just some fields. -/
def onlyP (x : DeedC) (l : List Fld) : DeedC where
  kind := x.kind
  n := if .n ∈ l then x.n else 0
  m := if .m ∈ l then x.m else 0
  k := if .k ∈ l then x.k else 0
  path := if .p ∈ l then x.path else []
  as_ := if .a ∈ l then x.as_ else []
  ba := if .b ∈ l then x.ba else none
  bc := if .b ∈ l then x.bc else 0
  b := if .b ∈ l then x.b else []
  ka := if .l ∈ l then x.ka else none
  kc := if .l ∈ l then x.kc else 0
  keep := if .l ∈ l then x.keep else []
def onlyD (x : DeedC) : DeedC := onlyP x (flds x.kind.toNat)
def setF (x y : DeedC) : Fld → DeedC
  | .p => { y with path := x.path }
  | .a => { y with as_ := x.as_ }
  | .n => { y with n := x.n }
  | .m => { y with m := x.m }
  | .k => { y with k := x.k }
  | .b => { y with ba := x.ba, bc := x.bc, b := x.b }
  | .l => { y with ka := x.ka, kc := x.kc, keep := x.keep }
theorem onlyP_snoc (x : DeedC) (l : List Fld) (f : Fld) : onlyP x (l ++ [f]) = setF x (onlyP x l) f := by
  cases f <;> simp [onlyP, setF]
theorem onlyP_ok {w : World} {x : DeedC} {D : Nat → Prop} (h : DOk w x D) (l : List Fld) : DOk w (onlyP x l) D := by
  have z : in64 0 := ⟨by decide, by decide⟩
  refine ⟨?_, ?_, h.kind, ?_, ?_, ?_, ?_⟩
  · simp only [onlyP]; split
    · exact h.b
    · exact ⟨rfl, Nat.le_refl _, by decide, .inl rfl⟩
  · simp only [onlyP]; split
    · exact h.keep
    · exact ⟨rfl, Nat.le_refl _, by decide, .inl rfl⟩
  · simp only [onlyP]; split
    · exact h.n
    · exact z
  · simp only [onlyP]; split
    · exact h.m
    · exact z
  · simp only [onlyP]; split
    · exact h.k
    · exact z
  · simp only [onlyP]; split
    · exact h.each
    · exact fun n hn => by cases hn
theorem onlyP_sm {x : DeedC} (h : DSm x) (l : List Fld) : DSm (onlyP x l) := by
  obtain ⟨h1, h2, h3, h4⟩ := h
  refine ⟨?_, ?_, ?_, ?_⟩
  · simp only [onlyP]; split
    · exact h1
    · exact Nat.zero_le _
  · simp only [onlyP]; split
    · exact h2
    · exact Nat.zero_le _
  · simp only [onlyP]; split
    · exact h3
    · exact Nat.zero_le _
  · simp only [onlyP]; split
    · exact h4
    · exact Nat.zero_le _
theorem built_kind (i : Int) : Tryd.prog.built 32 [(0, .int .i64 i)] = some (dC { (default : DeedC) with kind := i }).toArray := by kernel_rfl
--@def ONLY := 8
set_option maxRecDepth 100000 in
set_option maxHeartbeats 4000000 in
theorem only_calls (x : DeedC) (w : World) (hk : 0 ≤ x.kind ∧ x.kind < 26) :
    Calls Tryd.prog 8 #[.agg (dC x).toArray] w fun e w' => e = .returned (.agg (dC (onlyD x)).toArray) ∧ Kp No w w' := by
  refine calls_at (n := 58) Tryd.func8 rfl rfl (by simp) ?_
  obtain ⟨k, hkk⟩ := Int.eq_ofNat_of_zero_le hk.1
  have hk26 : k < 26 := by omega
  have hkt : x.kind.toNat = k := by omega
  (refine At_seq ?_; refine At_region ?_)
  refine AtR_go rfl (G_val (r_box rfl) ?_)
  rintro _ w1 ⟨b1, rfl, hb1, e1⟩
  have k1 : Kp No w w1 := e1.kp (.inr (by omega))
  have B1 : Blk w1 b1 32 (0, 0) (dC x) := e1.blk
  clear e1
  skip
  refine AtR_go rfl (G_val r_alloc ?_)
  rintro _ w2 ⟨b2, rfl, hb2, e2⟩
  have k2 : Kp No w1 w2 := e2.kp (.inr (by omega))
  have B2 : Blk w2 b2 32 (0, 0) (dC default) := e2.blk
  replace B1 := B1.kp k2 fun h => h
  clear e2
  (refine AtR_nil ?_; refine At_seq ?_; refine At_region ?_; refine s_fa ?_; refine s_ld ?_)
  refine s_val (x_build rfl (built_kind _)) ?_
  refine AtR_go rfl (G_val r_alloc ?_)
  rintro _ w3 ⟨b3, rfl, hb3, e3⟩
  have k3 : Kp No w2 w3 := e3.kp (.inr (by omega))
  have B3 : Blk w3 b3 32 (0, 0) (dC default) := e3.blk
  have l1 := B1.lt
  have l2 := B2.lt
  replace B1 := B1.kp k3 fun h => h
  replace B2 := B2.kp k3 fun h => h
  clear e3
  refine AtR_go rfl (G_skip (r_store_all (s := 8) (vs := dC { (default : DeedC) with kind := x.kind }) rfl rfl B3 rfl rfl rfl) fun w4 e4 => ?_)
  have B4 : Blk w4 b3 32 (0, 0) (dC { (default : DeedC) with kind := x.kind }) := e4.blk
  have k4 : Kp (fun j => j = b3) w3 w4 := e4.kp (.inl rfl)
  replace B1 := B1.kp k4 (by omega)
  replace B2 := B2.kp k4 (by omega)
  have z1 := k1.size
  have z2 := k2.size
  have K4 : Kp No w w4 := ((k1.trans k2).trans k3).trans' k4 (by rintro j rfl; right; omega)
  have l4 := B4.lt
  clear e4 B3 k1 k2 k3 k4
  (refine AtR_nil ?_; refine At_seq ?_; refine At_region ?_; refine s_fa ?_; refine s_ld ?_)
  rw [hkk]
  refine s_call x_call (has_calls k hk26 _) ?_
  rintro _ w5 ⟨a5, c5, rfl, O5, hn5, k5⟩
  refine ⟨_, rfl, ?_⟩
  replace B1 := B1.kp k5 fun h => h
  replace B2 := B2.kp k5 fun h => h
  replace B4 := B4.kp k5 fun h => h
  have K5 := K4.trans k5
  clear K4 k5
  (refine s_as ?_; refine AtR_nil ?_; refine At_seq ?_; refine At_seq ?_; refine At_region ?_; refine s_as ?_; refine AtR_nil ?_; refine At_block ?_)
  have hD0 : { (default : DeedC) with kind := x.kind } = onlyP x ((flds k).take 0) := by simp [onlyP]; exact ⟨rfl, rfl, rfl, rfl, rfl, rfl, rfl, rfl, rfl, rfl, rfl⟩
  rw [hD0] at B4
  obtain ⟨hf1, _⟩ := flds_fin ⟨k, hk26⟩
  simp only at hf1
  have l5 := B4.lt
  have l51 := B1.lt
  have l52 := B2.lt
  refine At_while (fun i : Nat => [(1, .pointer (some ⟨b1, 0, none⟩)), (2, .pointer (some ⟨b2, 0, none⟩)), (3, .pointer (some ⟨b3, 0, none⟩)), (4, .slice a5 (flds k).length c5), (5, .int .i64 (i : Int))])
    (fun i w' => i ≤ (flds k).length ∧ Blk w' b1 32 (0, 0) (dC x) ∧ Blk w' b2 32 (0, 0) (dC default) ∧ Blk w' b3 32 (0, 0) (dC (onlyP x ((flds k).take i))) ∧ Kp (fun j => j = b3) w5 w') (fun i => (flds k).length - i) 0 ⟨rfl, rfl, rfl, rfl, rfl, trivial⟩ ⟨by omega, B1, B2, B4, .refl _ _⟩ ?_
  clear B1 B2 B4
  rintro i w6 junk ⟨hi, B1, B2, B3, k6⟩ again
  by_cases hlt : i < (flds k).length
  · obtain ⟨b, sp, rfl, hB, hBl, hseg⟩ := own_in O5 (by omega)
    have hb4 := hn5 b (by simp [blkOf])
    have hseg6 := hseg.kp k6 (by omega) hB.lt
    have hg : (ints .i64 ((flds k).map fnum))[i]? = some (.int .i64 (fnum ((flds k).getD i .p))) := by simp [ints, List.getD, hlt]
    have hsn : (flds k).take (i + 1) = (flds k).take i ++ [(flds k).getD i .p] := by
      have e : (flds k).getD i .p = (flds k)[i] := by simp [List.getD, hlt]
      rw [e, List.take_succ_eq_append_getElem hlt]
    have hs2 := onlyP_snoc x ((flds k).take i) ((flds k).getD i .p)
    rw [← hsn] at hs2
    obtain ⟨c, hc⟩ : ∃ c, c = fnum ((flds k).getD i .p) := ⟨_, rfl⟩
    rw [← hc] at hg
    generalize (flds k).getD i .p = fl at *
    (refine At_seq ?_; refine At_seq ?_; refine At_region ?_; refine s_mv ?_; refine s_mv ?_; refine s_ln ?_; refine s_lss ?_; refine AtR_nil ?_; refine At_cond_t rfl ?_; refine At_skip ?_; refine At_seq ?_; refine At_block ?_; refine At_seq ?_; refine At_region ?_; refine s_mv ?_; refine s_mv ?_; refine s_ia ?_)
    refine s_val (x_load_seg (off := 0) rfl hseg6 hg) ?_
    have z6 := k6.size
    cases fl
    · replace hc : c = 1 := hc
      (refine AtR_nil ?_; refine At_block ?_; refine At_seq ?_; refine At_region ?_; refine s_eql ?_; refine s_as ?_; refine AtR_nil ?_; refine At_cond_t rfl ?_; refine At_region ?_; refine s_fa ?_; refine s_ld ?_; refine s_fa ?_)
      refine AtR_go rfl (G_skip (r_store1 (v := strV x.path) rfl rfl B3 (by simp [dC]) rfl rfl) fun w7 e7 => ?_)
      have k7 : Kp (fun j => j = b3) w6 w7 := e7.kp (.inl rfl)
      (refine AtR_nil ?_; refine At_inBlock ?_; refine At_inBlock ?_; refine At_region ?_; refine s_mv ?_; refine s_ad ?_; refine s_as ?_; refine AtR_nil ?_)
      refine again (i + 1) _ _ ⟨rfl, rfl, rfl, rfl, rfl, trivial⟩ ⟨hlt, B1.kp k7 (by omega), B2.kp k7 (by omega), ?_, k6.trans k7⟩ (by omega)
      rw [hs2]; exact e7.blk
    · replace hc : c = 2 := hc
      (refine AtR_nil ?_; refine At_block ?_; refine At_seq ?_; refine At_region ?_; refine s_eql ?_; refine s_as ?_; refine AtR_nil ?_; refine At_cond_f rfl ?_; refine At_seq ?_; refine At_region ?_; refine s_eql ?_; refine s_as ?_; refine AtR_nil ?_; refine At_cond_t rfl ?_; refine At_region ?_; refine s_fa ?_; refine s_ld ?_; refine s_fa ?_)
      refine AtR_go rfl (G_skip (r_store1 (v := strV x.as_) rfl rfl B3 (by simp [dC]) rfl rfl) fun w7 e7 => ?_)
      have k7 : Kp (fun j => j = b3) w6 w7 := e7.kp (.inl rfl)
      (refine AtR_nil ?_; refine At_inBlock ?_; refine At_inBlock ?_; refine At_region ?_; refine s_mv ?_; refine s_ad ?_; refine s_as ?_; refine AtR_nil ?_)
      refine again (i + 1) _ _ ⟨rfl, rfl, rfl, rfl, rfl, trivial⟩ ⟨hlt, B1.kp k7 (by omega), B2.kp k7 (by omega), ?_, k6.trans k7⟩ (by omega)
      rw [hs2]; exact e7.blk
    · replace hc : c = 6 := hc
      (refine AtR_nil ?_; refine At_block ?_; refine At_seq ?_; refine At_region ?_; refine s_eql ?_; refine s_as ?_; refine AtR_nil ?_; refine At_cond_f rfl ?_; refine At_seq ?_; refine At_region ?_; refine s_eql ?_; refine s_as ?_; refine AtR_nil ?_; refine At_cond_f rfl ?_; refine At_seq ?_; refine At_region ?_; refine s_eql ?_; refine s_as ?_; refine AtR_nil ?_; refine At_cond_f rfl ?_; refine At_seq ?_; refine At_region ?_; refine s_eql ?_; refine s_as ?_; refine AtR_nil ?_; refine At_cond_f rfl ?_; refine At_seq ?_; refine At_region ?_; refine s_eql ?_; refine s_as ?_; refine AtR_nil ?_; refine At_cond_f rfl ?_; refine At_seq ?_; refine At_region ?_; refine s_eql ?_; refine s_as ?_; refine AtR_nil ?_; refine At_cond_t rfl ?_; refine At_region ?_; refine s_fa ?_; refine s_ld ?_; refine s_fa ?_)
      refine AtR_go rfl (G_skip (r_store1 (v := .slice x.ba x.b.length x.bc) rfl rfl B3 (by simp [dC]) rfl rfl) fun w7 e7 => ?_)
      have k7 : Kp (fun j => j = b3) w6 w7 := e7.kp (.inl rfl)
      (refine AtR_nil ?_; refine At_inBlock ?_; refine At_inBlock ?_; refine At_region ?_; refine s_mv ?_; refine s_ad ?_; refine s_as ?_; refine AtR_nil ?_)
      refine again (i + 1) _ _ ⟨rfl, rfl, rfl, rfl, rfl, trivial⟩ ⟨hlt, B1.kp k7 (by omega), B2.kp k7 (by omega), ?_, k6.trans k7⟩ (by omega)
      rw [hs2]; exact e7.blk
    · replace hc : c = 7 := hc
      (refine AtR_nil ?_; refine At_block ?_; refine At_seq ?_; refine At_region ?_; refine s_eql ?_; refine s_as ?_; refine AtR_nil ?_; refine At_cond_f rfl ?_; refine At_seq ?_; refine At_region ?_; refine s_eql ?_; refine s_as ?_; refine AtR_nil ?_; refine At_cond_f rfl ?_; refine At_seq ?_; refine At_region ?_; refine s_eql ?_; refine s_as ?_; refine AtR_nil ?_; refine At_cond_f rfl ?_; refine At_seq ?_; refine At_region ?_; refine s_eql ?_; refine s_as ?_; refine AtR_nil ?_; refine At_cond_f rfl ?_; refine At_seq ?_; refine At_region ?_; refine s_eql ?_; refine s_as ?_; refine AtR_nil ?_; refine At_cond_f rfl ?_; refine At_seq ?_; refine At_region ?_; refine s_eql ?_; refine s_as ?_; refine AtR_nil ?_; refine At_cond_f rfl ?_; refine At_seq ?_; refine At_region ?_; refine s_eql ?_; refine s_as ?_; refine AtR_nil ?_; refine At_cond_t rfl ?_; refine At_region ?_; refine s_fa ?_; refine s_ld ?_; refine s_fa ?_)
      refine AtR_go rfl (G_skip (r_store1 (v := .slice x.ka x.keep.length x.kc) rfl rfl B3 (by simp [dC]) rfl rfl) fun w7 e7 => ?_)
      have k7 : Kp (fun j => j = b3) w6 w7 := e7.kp (.inl rfl)
      (refine AtR_nil ?_; refine At_inBlock ?_; refine At_inBlock ?_; refine At_region ?_; refine s_mv ?_; refine s_ad ?_; refine s_as ?_; refine AtR_nil ?_)
      refine again (i + 1) _ _ ⟨rfl, rfl, rfl, rfl, rfl, trivial⟩ ⟨hlt, B1.kp k7 (by omega), B2.kp k7 (by omega), ?_, k6.trans k7⟩ (by omega)
      rw [hs2]; exact e7.blk
    · replace hc : c = 3 := hc
      (refine AtR_nil ?_; refine At_block ?_; refine At_seq ?_; refine At_region ?_; refine s_eql ?_; refine s_as ?_; refine AtR_nil ?_; refine At_cond_f rfl ?_; refine At_seq ?_; refine At_region ?_; refine s_eql ?_; refine s_as ?_; refine AtR_nil ?_; refine At_cond_f rfl ?_; refine At_seq ?_; refine At_region ?_; refine s_eql ?_; refine s_as ?_; refine AtR_nil ?_; refine At_cond_t rfl ?_; refine At_region ?_; refine s_fa ?_; refine s_ld ?_; refine s_fa ?_)
      refine AtR_go rfl (G_skip (r_store1 (v := .int .i64 x.n) rfl rfl B3 (by simp [dC]) rfl rfl) fun w7 e7 => ?_)
      have k7 : Kp (fun j => j = b3) w6 w7 := e7.kp (.inl rfl)
      (refine AtR_nil ?_; refine At_inBlock ?_; refine At_inBlock ?_; refine At_region ?_; refine s_mv ?_; refine s_ad ?_; refine s_as ?_; refine AtR_nil ?_)
      refine again (i + 1) _ _ ⟨rfl, rfl, rfl, rfl, rfl, trivial⟩ ⟨hlt, B1.kp k7 (by omega), B2.kp k7 (by omega), ?_, k6.trans k7⟩ (by omega)
      rw [hs2]; exact e7.blk
    · replace hc : c = 4 := hc
      (refine AtR_nil ?_; refine At_block ?_; refine At_seq ?_; refine At_region ?_; refine s_eql ?_; refine s_as ?_; refine AtR_nil ?_; refine At_cond_f rfl ?_; refine At_seq ?_; refine At_region ?_; refine s_eql ?_; refine s_as ?_; refine AtR_nil ?_; refine At_cond_f rfl ?_; refine At_seq ?_; refine At_region ?_; refine s_eql ?_; refine s_as ?_; refine AtR_nil ?_; refine At_cond_f rfl ?_; refine At_seq ?_; refine At_region ?_; refine s_eql ?_; refine s_as ?_; refine AtR_nil ?_; refine At_cond_t rfl ?_; refine At_region ?_; refine s_fa ?_; refine s_ld ?_; refine s_fa ?_)
      refine AtR_go rfl (G_skip (r_store1 (v := .int .i64 x.m) rfl rfl B3 (by simp [dC]) rfl rfl) fun w7 e7 => ?_)
      have k7 : Kp (fun j => j = b3) w6 w7 := e7.kp (.inl rfl)
      (refine AtR_nil ?_; refine At_inBlock ?_; refine At_inBlock ?_; refine At_region ?_; refine s_mv ?_; refine s_ad ?_; refine s_as ?_; refine AtR_nil ?_)
      refine again (i + 1) _ _ ⟨rfl, rfl, rfl, rfl, rfl, trivial⟩ ⟨hlt, B1.kp k7 (by omega), B2.kp k7 (by omega), ?_, k6.trans k7⟩ (by omega)
      rw [hs2]; exact e7.blk
    · replace hc : c = 5 := hc
      (refine AtR_nil ?_; refine At_block ?_; refine At_seq ?_; refine At_region ?_; refine s_eql ?_; refine s_as ?_; refine AtR_nil ?_; refine At_cond_f rfl ?_; refine At_seq ?_; refine At_region ?_; refine s_eql ?_; refine s_as ?_; refine AtR_nil ?_; refine At_cond_f rfl ?_; refine At_seq ?_; refine At_region ?_; refine s_eql ?_; refine s_as ?_; refine AtR_nil ?_; refine At_cond_f rfl ?_; refine At_seq ?_; refine At_region ?_; refine s_eql ?_; refine s_as ?_; refine AtR_nil ?_; refine At_cond_f rfl ?_; refine At_seq ?_; refine At_region ?_; refine s_eql ?_; refine s_as ?_; refine AtR_nil ?_; refine At_cond_t rfl ?_; refine At_region ?_; refine s_fa ?_; refine s_ld ?_; refine s_fa ?_)
      refine AtR_go rfl (G_skip (r_store1 (v := .int .i64 x.k) rfl rfl B3 (by simp [dC]) rfl rfl) fun w7 e7 => ?_)
      have k7 : Kp (fun j => j = b3) w6 w7 := e7.kp (.inl rfl)
      (refine AtR_nil ?_; refine At_inBlock ?_; refine At_inBlock ?_; refine At_region ?_; refine s_mv ?_; refine s_ad ?_; refine s_as ?_; refine AtR_nil ?_)
      refine again (i + 1) _ _ ⟨rfl, rfl, rfl, rfl, rfl, trivial⟩ ⟨hlt, B1.kp k7 (by omega), B2.kp k7 (by omega), ?_, k6.trans k7⟩ (by omega)
      rw [hs2]; exact e7.blk
  · obtain rfl : i = (flds k).length := by omega
    rw [List.take_length] at B3
    (refine At_seq ?_; refine At_seq ?_; refine At_region ?_; refine s_mv ?_; refine s_mv ?_; refine s_ln ?_; refine s_lss ?_; refine AtR_nil ?_; refine At_cond_f rfl ?_; refine At_exit rfl ?_; refine At_seq ?_; refine At_region ?_)
    refine s_val (x_load_all rfl B3 rfl) ?_
    refine AtR_go rfl (G_skip (r_store_all (s := 8) (vs := dC (onlyP x (flds k))) rfl rfl B2 rfl rfl rfl) fun w7 e7 => ?_)
    (refine AtR_nil ?_)
    refine At_ret_cell (s := 8) Tryd.func8 rfl rfl e7.blk rfl ⟨?_, ?_⟩
    · unfold onlyD; rw [hkt]
    · have k7 : Kp (fun j => j = b2) w6 w7 := e7.kp (.inl rfl)
      exact (K5.trans' k6 (by rintro j rfl; right; omega)).trans' k7 (by rintro j rfl; right; omega)
end Go.Proofs.YtgobmphkakmdmaaDoor
