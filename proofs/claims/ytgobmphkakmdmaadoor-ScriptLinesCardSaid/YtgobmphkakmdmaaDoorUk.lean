/- A deed's line: walked. -/
import Derived.Test.YtgobmphkakmdmaaDoorUj
set_option linter.unusedVariables false
namespace Go.Kx
open Go
theorem wrap_c (c : UInt8) : IntKind.u8.wrap (c.toNat : Int) = ub c := by
  have := c.toNat_lt
  rw [wrap_u8]; unfold ub; omega
end Go.Kx
namespace Go.Proofs.YtgobmphkakmdmaaDoor
open Go Go.Kx Go.Sc
def namesPL : List (List UInt8) := [[111, 112, 101, 110, 32, 80, 75, 77], [99, 108, 111, 115, 101, 32, 75], [114, 101, 97, 100, 32, 75, 77], [119, 114, 105, 116, 101, 32, 75, 66], [115, 101, 101, 107, 32, 75, 77, 78], [99, 117, 116, 32, 80, 77], [109, 107, 100, 105, 114, 32, 80, 77], [115, 121, 109, 108, 105, 110, 107, 32, 80, 65], [114, 101, 108, 105, 110, 107, 32, 80], [108, 105, 110, 107, 32, 80, 65], [117, 110, 108, 105, 110, 107, 32, 80], [114, 109, 100, 105, 114, 32, 80], [114, 101, 110, 97, 109, 101, 32, 80, 65], [108, 105, 115, 116, 32, 80], [115, 116, 97, 116, 32, 80, 75], [99, 104, 109, 111, 100, 32, 80, 77], [117, 116, 105, 109, 101, 115, 32, 80, 77], [112, 111, 108, 105, 99, 121, 32, 80, 77, 75], [116, 105, 99, 107, 32, 77], [97, 100, 100, 32, 75], [114, 101, 109, 111, 118, 101, 32, 75], [115, 121, 110, 99], [99, 114, 97, 115, 104, 32, 76], [108, 105, 109, 105, 116, 32, 77], [116, 97, 109, 112, 101, 114, 32, 77, 75], [119, 101, 97, 114, 32, 77]]
theorem names_fin : ∀ k : _root_.Fin 26, (cutP (namesPL.getD k.val []) 32).1 = nameB k.val ∧ (cutP (namesPL.getD k.val []) 32).2.1 = (flds k.val).map ltr ∧ (namesPL.getD k.val []).length ≤ 100 := by decide +kernel
def allF : List Fld := [.p, .a, .b, .l, .n, .m, .k]
theorem mem_fin (f : Fld) : ∀ k : _root_.Fin 26, (Lib.indexByte ((flds k.val).map ltr) (ltr f) < 0) ↔ f ∉ flds k.val := by
  cases f <;> decide +kernel
theorem flds_fin : ∀ k : _root_.Fin 26, (flds k.val).length ≤ 3 ∧ (nameB k.val).length ≤ 20 := by decide +kernel
theorem ltr_lt (f : Fld) : (ltr f).toNat < 128 := by cases f <;> decide
set_option maxRecDepth 100000 in
set_option maxHeartbeats 4000000 in
theorem names_calls (w : World) :
    Calls Tryd.prog 16 #[] w fun e w' => ∃ b, e = .returned (.slice (some ⟨b, 0, none⟩) 26 26) ∧ Blk w' b 9 (0, 0) (namesPL.map strV) ∧ b = w.heap.size ∧ Kp No w w' := by
  refine calls_at (n := 2) Tryd.func16 rfl rfl (by simp) ?_
  (refine At_seq ?_; refine At_region ?_; refine s_as ?_; refine AtR_nil ?_; refine At_seq ?_; refine At_region ?_)
  refine AtR_go rfl (G_val (r_buildSlice1 (os := [_, _, _, _, _, _, _, _, _, _, _, _, _, _, _, _, _, _, _, _, _, _, _, _, _, _]) rfl rfl (by omega) rfl (vs := namesPL.map strV) rfl rfl) ?_)
  rintro _ w1 ⟨b1, rfl, hb1, e1⟩
  (refine s_as ?_; refine AtR_nil ?_)
  refine At_ret1 Tryd.func16 rfl (by conv => lhs; whnf) ?_
  exact ⟨b1, rfl, e1.blk, hb1, e1.kp (.inr (by omega))⟩
/-- Has it nothing but what its kind has? -/
def cleanB (x : DeedC) : Bool := allF.all fun f => decide (f ∈ flds x.kind.toNat) || decide (Sc.part x.plain f = Sc.part (default : DeedC).plain f)
/-- A deed's error. -/
def errD (x : DeedC) : Nat := if x.kind < 0 ∨ 26 ≤ x.kind then 2 else if cleanB x = false then 2 else if 4096 < (lineD x.plain).length then 15 else 0
/-- What its line comes to. -/
def lineV (x : DeedC) : Value := if errD x = 0 then .tuple #[strV (lineD x.plain), .nilIface] else .tuple #[strV [], .iface 25 (.int .i64 (errD x))]
theorem errD_or (x : DeedC) : errD x = 0 ∨ errD x = 2 ∨ errD x = 15 := by
  unfold errD
  split
  · exact .inr (.inl rfl)
  · split
    · exact .inr (.inl rfl)
    · split
      · exact .inr (.inr rfl)
      · exact .inl rfl
theorem built_zero : Tryd.prog.built 32 [] = some (dC default).toArray := by kernel_rfl
theorem dok_zero (w : World) (D : Nat → Prop) : DOk w default D :=
  ⟨⟨rfl, Nat.le_refl _, by decide, .inl rfl⟩, ⟨rfl, Nat.le_refl _, by decide, .inl rfl⟩, ⟨by decide, by decide⟩, ⟨by decide, by decide⟩, ⟨by decide, by decide⟩, ⟨by decide, by decide⟩, fun n h => by cases h⟩
theorem dsm_zero : DSm default := ⟨by decide, by decide, by decide, by decide⟩
set_option maxRecDepth 100000 in
set_option maxHeartbeats 4000000 in
theorem line_calls (x : DeedC) (w : World) {D : Nat → Prop} (h : DOk w x D) (hs : DSm x) (hT : Tab w) :
    Calls Tryd.prog 12 #[.agg (dC x).toArray] w fun e w' => e = .returned (lineV x) ∧ Kp No w w' := by
  refine calls_at (n := 77) Tryd.func12 rfl rfl (by simp) ?_
  have hki := h.kind
  unfold in64 at hki
  (refine At_seq ?_; refine At_region ?_)
  refine AtR_go rfl (G_val (r_box rfl) ?_)
  rintro _ w1 ⟨b1, rfl, hb1, e1⟩
  have k1 : Kp No w w1 := e1.kp (.inr (by omega))
  have B1 : Blk w1 b1 32 (0, 0) (dC x) := e1.blk
  clear e1
  have l1 := B1.lt
  (refine s_as ?_; refine s_as ?_; refine AtR_nil ?_; refine At_seq ?_; refine At_region ?_)
  refine s_call x_call (names_calls _) ?_
  rintro _ w2 ⟨bn, rfl, Bn, hbn, k2⟩
  refine ⟨_, rfl, ?_⟩
  have K2 := k1.trans k2
  replace B1 := B1.kp k2 fun h => h
  clear k2 k1
  by_cases hlo : x.kind < 0
  · (refine s_as ?_; refine AtR_nil ?_; refine At_seq ?_; refine At_seq ?_; refine At_region ?_; refine s_fa ?_; refine s_ld ?_; refine s_lss ?_; refine s_mv ?_; refine s_no rfl rfl rfl rfl ?_; refine s_no rfl rfl rfl rfl ?_; refine s_no rfl rfl rfl rfl ?_; refine s_no rfl rfl rfl rfl ?_; refine s_no rfl rfl rfl rfl ?_; refine s_pt ?_; refine AtR_nil ?_; refine At_cond_t rfl ?_; refine At_seq ?_; refine At_region ?_)
    refine s_val (x_ifaceI rfl) ?_
    (refine s_as ?_; refine s_as ?_; refine AtR_nil ?_)
    refine At_ret2 Tryd.func12 rfl (by conv => lhs; whnf) (by conv => lhs; whnf) ?_
    have he : errD x = 2 := by unfold errD; rw [if_pos (.inl hlo)]
    unfold lineV
    rw [he]
    exact ⟨rfl, K2⟩
  by_cases hhi : 26 ≤ x.kind
  · (refine s_as ?_; refine AtR_nil ?_; refine At_seq ?_; refine At_seq ?_; refine At_region ?_; refine s_fa ?_; refine s_ld ?_; refine s_lss ?_; refine s_mv ?_; refine s_yes rfl rfl rfl rfl ?_; refine g_fa ?_; refine s_yes rfl rfl rfl rfl ?_; refine g_ld ?_; refine s_yes rfl rfl rfl rfl ?_; refine g_mv ?_; refine s_yes rfl rfl rfl rfl ?_; refine g_ln ?_; refine s_yes rfl rfl rfl rfl ?_; refine g_geq ?_; refine s_pf ?_; refine AtR_nil ?_; refine At_cond_t rfl ?_; refine At_seq ?_; refine At_region ?_)
    refine s_val (x_ifaceI rfl) ?_
    (refine s_as ?_; refine s_as ?_; refine AtR_nil ?_)
    refine At_ret2 Tryd.func12 rfl (by conv => lhs; whnf) (by conv => lhs; whnf) ?_
    have he : errD x = 2 := by unfold errD; rw [if_pos (.inr hhi)]
    unfold lineV
    rw [he]
    exact ⟨rfl, K2⟩
  obtain ⟨k, hk⟩ : ∃ k : Nat, x.kind = (k : Int) := Int.eq_ofNat_of_zero_le (by omega)
  have hk26 : k < 26 := by omega
  have hkt : x.kind.toNat = k := by omega
  obtain ⟨hn1, hn2, hn3⟩ := names_fin ⟨k, hk26⟩
  obtain ⟨hf1, hf2⟩ := flds_fin ⟨k, hk26⟩
  simp only at hn1 hn2 hn3 hf1 hf2
  have hgn : (namesPL.map strV)[k]? = some (strV (namesPL.getD k [])) := strs_get (xs := namesPL) (by have : namesPL.length = 26 := rfl; omega)
  generalize namesPL.getD k [] = nm at hn1 hn2 hn3 hgn
  (refine s_as ?_; refine AtR_nil ?_; refine At_seq ?_; refine At_seq ?_; refine At_region ?_; refine s_fa ?_; refine s_ld ?_; refine s_lss ?_; refine s_mv ?_; refine s_yes rfl rfl rfl rfl ?_; refine g_fa ?_; refine s_yes rfl rfl rfl rfl ?_; refine g_ld ?_; refine s_yes rfl rfl rfl rfl ?_; refine g_mv ?_; refine s_yes rfl rfl rfl rfl ?_; refine g_ln ?_; refine s_yes rfl rfl rfl rfl ?_; refine g_geq ?_; refine s_pf ?_; refine AtR_nil ?_; refine At_cond_f rfl ?_; refine At_skip ?_; refine At_seq ?_; refine At_region ?_; refine s_mv ?_; refine s_fa ?_; refine s_ld ?_; refine s_ia ?_)
  refine s_val (x_load_seg (off := 0) (j := k) (by rw [hkt]; rfl) Bn.seg hgn) ?_
  refine s_call x_call (cut_calls nm 32 _ (by omega)) ?_
  rintro _ w3 ⟨rfl, k3⟩
  refine ⟨_, rfl, ?_⟩
  rw [hn1, hn2]
  generalize (cutP nm 32).2.2 = fnd
  clear hgn
  replace B1 := B1.kp k3 fun h => h
  have l13 := B1.lt
  have K3 := K2.trans k3
  clear K2 k3
  (refine s_mv ?_; refine s_ex ?_; refine s_ex ?_; refine s_ex ?_; refine s_as ?_; refine s_as ?_; refine s_as ?_; refine AtR_nil ?_; refine At_seq ?_; refine At_region ?_; refine s_mv ?_)
  refine AtR_go rfl (G_val (r_buildSlice1 (os := [_]) rfl rfl (by omega) rfl rfl rfl) ?_)
  rintro _ w4 ⟨b4, rfl, hb4, e4⟩
  have k4 : Kp No w3 w4 := e4.kp (.inr (by omega))
  have B4 : Blk w4 b4 9 (0, 0) [strV (nameB k)] := e4.blk
  clear e4
  replace B1 := B1.kp k4 fun h => h
  have z3 := K3.size
  have K4 := K3.trans k4
  clear K3 k4
  (refine s_as ?_; refine AtR_nil ?_; refine At_seq ?_; refine At_seq ?_; refine At_region ?_; refine s_mv ?_)
  refine AtR_go rfl (G_val (r_range rfl) ?_)
  rintro _ w5 ⟨bi, rfl, hbi, hI, k5⟩
  have B5 := B4.kp k5 fun h => h
  have l4 := B4.lt
  replace B1 := B1.kp k5 fun h => h
  have K5 := K4.trans k5
  have l5 := hI.lt
  clear K4 k5
  (refine AtR_nil ?_; refine At_block ?_)
  have hO5 : Own w5 9 1 (some ⟨b4, 0, none⟩) 1 1 ([nameB k].map strV) := ⟨rfl, Nat.le_refl _, by decide, .inr ⟨b4, [], rfl, B5, rfl⟩⟩
  have hkp : x.plain.kind = k := hkt
  refine At_while (fun s : Nat × Option Addr × Nat => [(1, .pointer (some ⟨b1, 0, none⟩)), (6, strV ((flds k).map ltr)), (8, .slice s.2.1 (s.1 + 1) s.2.2), (40, .pointer (some ⟨bi, 0, none⟩))])
    (fun s w' => s.1 ≤ (flds k).length ∧ Own w' 9 1 s.2.1 (s.1 + 1) s.2.2 ((nameB k :: ((flds k).take s.1).map (Sc.part x.plain)).map strV) ∧ (∀ j, blkOf s.2.1 j → j ≠ b1 ∧ j ≠ bi ∧ w.heap.size ≤ j) ∧ It w' bi ((flds k).map ltr) s.1 ∧ Blk w' b1 32 (0, 0) (dC x) ∧ Kp No w w' ∧ w5.heap.size ≤ w'.heap.size)
    (fun s => (flds k).length - s.1) (0, some ⟨b4, 0, none⟩, 1) ⟨rfl, rfl, rfl, rfl, trivial⟩ ⟨by omega, hO5, fun j hj => by simp [blkOf] at hj; omega, hI, B1, K5, Nat.le_refl _⟩ ?_
  rintro ⟨i, ao, co⟩ w6 junk ⟨hi, hO, hb, hIt, B6, K6, z6⟩ again
  simp only at hi hO hb hIt again ⊢
  clear hI B5 hO5 B1
  have zK6 := K6.size
  have l16 := B6.lt
  have lI6 := hIt.lt
  by_cases hlt : i < (flds k).length
  · have hgl : ((flds k).map ltr).getD i 0 = ltr ((flds k).getD i .p) := by simp [List.getD, hlt]
    have hml : ((flds k).map ltr).length = (flds k).length := List.length_map _
    refine At_seq ?_
    refine At_region ?_
    refine AtR_go rfl (G_val (r_next rfl hIt (by omega) (by rw [hgl]; exact ltr_lt _)) ?_)
    rintro _ w7 ⟨rfl, hI7, k7⟩
    rw [hgl]
    have B7 := B6.kp k7 (by omega)
    have hO7 := hO.kp k7 fun j hj h => (hb j hj).2.1 h
    have K7 : Kp No w w7 := K6.trans' k7 (by rintro j rfl; right; omega)
    have z7 := k7.size
    have hsn : (nameB k :: ((flds k).take (i + 1)).map (Sc.part x.plain)).map strV = (nameB k :: ((flds k).take i).map (Sc.part x.plain)).map strV ++ [strV (Sc.part x.plain ((flds k).getD i .p))] := by
      have e : (flds k).getD i .p = (flds k)[i] := by simp [List.getD, hlt]
      rw [e, List.take_succ_eq_append_getElem hlt, List.map_append, ← List.cons_append, List.map_append]
      rfl
    generalize (flds k).getD i .p = fl at hsn ⊢
    clear hO hIt B6 K6 k7
    (refine s_ex ?_; refine AtR_nil ?_; refine At_seq ?_; refine At_cond_t rfl ?_; refine At_skip ?_; refine At_block ?_; refine At_seq ?_; refine At_region ?_; refine s_ex ?_; refine s_as ?_; refine AtR_nil ?_; refine At_region ?_; refine s_mv ?_)
    refine s_val (x_load_all rfl B7 rfl) ?_
    (refine s_mv ?_)
    refine s_call x_call (part_calls x fl _ (h.kpn K7) hs (hT.kpn K7)) ?_
    rintro _ w8 ⟨rfl, k8⟩
    refine ⟨_, rfl, ?_⟩
    refine AtR_go rfl (G_val (r_buildSlice1 (os := [_]) rfl rfl (by omega) rfl rfl rfl) ?_)
    rintro _ w9 ⟨b9, rfl, hb9, e9⟩
    have k9 : Kp No w8 w9 := e9.kp (.inr (by omega))
    have B9 : Blk w9 b9 9 (0, 0) [strV (Sc.part x.plain fl)] := e9.blk
    clear e9
    have k89 := k8.trans k9
    have hO9 := hO7.kp k89 fun _ _ h => h
    refine AtR_go rfl (G_val (r_append (j := 1) rfl rfl hO9 (B9.src (T := 34) (len := 1) (cap := 1) Tryd.underlying34 rfl rfl) rfl (by omega) (by simp only [maxLen]; omega) (by omega)) ?_)
    rintro _ w10 ⟨a10, c10, rfl, hO10, k10, hf10⟩
    rw [← hsn] at hO10
    have z8 := k89.size
    have K9 := K7.trans k89
    have K10 := K9.trans' k10 fun j hj => .inr (hb j hj).2.2
    have z10 := k10.size
    (refine s_as ?_; refine AtR_nil ?_; refine At_inBlock ?_)
    refine again (i + 1, a10, c10) _ _ ⟨rfl, rfl, rfl, rfl, trivial⟩ ⟨hlt, hO10, fun j hj => ?_, (hI7.kp k89 fun h => h).kp k10 (fun h => (hb _ h).2.1 rfl), (B7.kp k89 fun h => h).kp k10 (fun h => (hb _ h).1 rfl), K10, by omega⟩ (by simp only; omega)
    rcases hf10 with rfl | ⟨b', rfl, hb'⟩
    · exact hb j hj
    · simp [blkOf] at hj; omega
  obtain rfl : i = (flds k).length := by omega
  rw [List.take_length] at hO
  have hIend : It w6 bi ((flds k).map ltr) ((flds k).map ltr).length := by rw [List.length_map]; exact hIt
  clear again hIt
  refine At_seq ?_
  refine At_region ?_
  refine s_val (x_next_end rfl hIend) ?_
  (refine s_ex ?_; refine AtR_nil ?_; refine At_seq ?_; refine At_cond_f rfl ?_; refine At_exit rfl ?_; refine At_seq ?_; refine At_seq ?_; refine At_region ?_)
  refine AtR_go rfl (G_val (r_range (l := [80, 65, 66, 76, 78, 77, 75]) rfl) ?_)
  rintro _ w7 ⟨bj, rfl, hbj, hJ, k7⟩
  have B7 := B6.kp k7 fun h => h
  have hO7 := hO.kp k7 fun _ _ h => h
  have K7 := K6.trans k7
  have l7 := hJ.lt
  have hbj2 : ∀ j, blkOf ao j → j ≠ bj := fun j hj e => by have := hO.lt j hj; omega
  clear K6 k7 hO B6 hIend
  (refine AtR_nil ?_; refine At_block ?_)
  have hclean : cleanB x = allF.all fun f => decide (f ∈ flds k) || decide (Sc.part x.plain f = Sc.part (default : DeedC).plain f) := by unfold cleanB; rw [hkt]
  have hmem : ∀ f, Lib.indexByte ((flds k).map ltr) (ltr f) < 0 ↔ f ∉ flds k := fun f => mem_fin f ⟨k, hk26⟩
  refine At_while (fun i : Nat => [(1, .pointer (some ⟨b1, 0, none⟩)), (6, strV ((flds k).map ltr)), (8, .slice ao ((flds k).length + 1) co), (50, .pointer (some ⟨bj, 0, none⟩))])
    (fun i w' => i ≤ 7 ∧ (∀ f ∈ allF.take i, f ∈ flds k ∨ Sc.part x.plain f = Sc.part (default : DeedC).plain f) ∧ Own w' 9 1 ao ((flds k).length + 1) co ((nameB k :: (flds k).map (Sc.part x.plain)).map strV) ∧ It w' bj [80, 65, 66, 76, 78, 77, 75] i ∧ Blk w' b1 32 (0, 0) (dC x) ∧ Kp No w w' ∧ w7.heap.size ≤ w'.heap.size)
    (fun i => 7 - i) 0 ⟨rfl, rfl, rfl, rfl, trivial⟩ ⟨by omega, fun f hf => by simp at hf, hO7, hJ, B7, K7, Nat.le_refl _⟩ ?_
  clear hO7 hJ B7 K7
  rintro i w8 junk2 ⟨hi7, hcl, hO, hIt, B8, K8, z8⟩ again
  have zK8 := K8.size
  have l18 := B8.lt
  by_cases hlt : i < 7
  · have hgf : ∃ f, allF.take (i + 1) = allF.take i ++ [f] ∧ ([80, 65, 66, 76, 78, 77, 75] : List UInt8).getD i 0 = ltr f ∧ allF[i]? = some f := by
      have hcase : i = 0 ∨ i = 1 ∨ i = 2 ∨ i = 3 ∨ i = 4 ∨ i = 5 ∨ i = 6 := by omega
      rcases hcase with rfl | rfl | rfl | rfl | rfl | rfl | rfl <;> exact ⟨_, rfl, rfl, rfl⟩
    obtain ⟨fl, hf1', hf2', hf3'⟩ := hgf
    refine At_seq ?_
    refine At_region ?_
    refine AtR_go rfl (G_val (r_next rfl hIt hlt (by rw [hf2']; exact ltr_lt _)) ?_)
    rintro _ w9 ⟨rfl, hI9, k9⟩
    rw [hf2']
    have B9 := B8.kp k9 (by omega)
    have hO9 := hO.kp k9 fun j hj h => hbj2 j hj h
    have K9 : Kp No w w9 := K8.trans' k9 (by rintro j rfl; right; omega)
    have z9 := k9.size
    clear hO hIt B8 K8 k9
    (refine s_ex ?_; refine AtR_nil ?_; refine At_seq ?_; refine At_cond_t rfl ?_; refine At_skip ?_; refine At_block ?_; refine At_seq ?_; refine At_region ?_; refine s_ex ?_; refine s_as ?_; refine AtR_nil ?_; refine At_seq ?_; refine At_region ?_)
    refine s_val (x_load_all rfl B9 rfl) ?_
    (refine s_mv ?_)
    refine s_call x_call (part_calls x fl _ (h.kpn K9) hs (hT.kpn K9)) ?_
    rintro _ w10 ⟨rfl, k10⟩
    refine ⟨_, rfl, ?_⟩
    have z10 := k10.size
    have K10 := K9.trans k10
    have B10 := B9.kp k10 fun h => h
    have hO10 := hO9.kp k10 fun _ _ h => h
    have hI10 := hI9.kp k10 fun h => h
    clear K9 k10 B9 hO9 hI9
    (refine s_as ?_; refine AtR_nil ?_; refine At_seq ?_; refine At_region ?_; refine s_mv ?_; refine s_mv ?_; refine s_cv ?_)
    rw [wrap_c]
    refine s_call x_call (ib_calls _ (ltr fl) _) ?_
    rintro _ _ ⟨rfl, rfl⟩
    refine ⟨_, rfl, ?_⟩
    have hme := hmem fl
    by_cases hin : fl ∈ flds k
    · have hix : ¬ Lib.indexByte ((flds k).map ltr) (ltr fl) < 0 := fun h => hme.1 h hin
      (refine s_lss ?_; refine s_mv ?_; refine s_no rfl rfl rfl rfl ?_; refine s_no rfl rfl rfl rfl ?_; refine s_no rfl rfl rfl rfl ?_; refine s_no rfl rfl rfl rfl ?_; refine s_no rfl rfl rfl rfl ?_; refine s_pf ?_; refine AtR_nil ?_; refine At_cond_f rfl ?_; refine At_skip ?_; refine At_inBlock ?_)
      refine again (i + 1) _ _ ⟨rfl, rfl, rfl, rfl, trivial⟩ ⟨hlt, fun f hf => ?_, hO10, hI10, B10, K10, by omega⟩ (by omega)
      rw [hf1'] at hf
      rcases List.mem_append.1 hf with hf | hf
      · exact hcl f hf
      · rw [List.mem_singleton.1 hf]; exact .inl hin
    · have hix := hme.2 hin
      (refine s_lss ?_; refine s_mv ?_; refine s_yes rfl rfl rfl rfl ?_; refine g_mv ?_)
      refine s_yes rfl rfl rfl rfl ?_
      refine g_val (x_build (pl := []) rfl built_zero) ?_
      (refine s_yes rfl rfl rfl rfl ?_; refine g_mv ?_)
      refine s_yes rfl rfl rfl rfl ?_
      refine g_call x_call (part_calls default fl _ (dok_zero _ (fun _ => True)) dsm_zero (hT.kpn K10)) ?_
      rintro _ w11 ⟨rfl, k11⟩
      refine ⟨_, rfl, ?_⟩
      refine s_yes rfl rfl rfl rfl ?_
      have K11 := K10.trans k11
      have z11 := k11.size
      by_cases heq : Sc.part x.plain fl = Sc.part (default : DeedC).plain fl
      · refine g_bool (x_neq_str rfl rfl) (decide_eq_false (fun h => h heq)) ?_
        (refine s_pt ?_; refine AtR_nil ?_; refine At_cond_f rfl ?_; refine At_skip ?_; refine At_inBlock ?_)
        refine again (i + 1) _ _ ⟨rfl, rfl, rfl, rfl, trivial⟩ ⟨hlt, fun f hf => ?_, hO10.kp k11 fun _ _ h => h, hI10.kp k11 fun h => h, B10.kp k11 fun h => h, K11, by omega⟩ (by omega)
        rw [hf1'] at hf
        rcases List.mem_append.1 hf with hf | hf
        · exact hcl f hf
        · rw [List.mem_singleton.1 hf]; exact .inr heq
      · refine g_bool (x_neq_str rfl rfl) (decide_eq_true heq) ?_
        (refine s_pt ?_; refine AtR_nil ?_; refine At_cond_t rfl ?_; refine At_seq ?_; refine At_region ?_)
        refine s_val (x_ifaceI rfl) ?_
        (refine s_as ?_; refine s_as ?_; refine AtR_nil ?_)
        refine At_ret2 Tryd.func12 rfl (by conv => lhs; whnf) (by conv => lhs; whnf) ?_
        have hc : cleanB x = false := by
          rw [hclean, Bool.eq_false_iff]
          intro hall
          have := List.all_eq_true.1 hall fl (List.mem_of_getElem? hf3')
          simp [hin, heq] at this
        have he : errD x = 2 := by unfold errD; rw [if_neg (by omega), if_pos hc]
        unfold lineV
        rw [he]
        exact ⟨rfl, K11⟩
  obtain rfl : i = 7 := by omega
  have hc : ¬ cleanB x = false := by
    rw [Bool.not_eq_false, hclean]
    refine List.all_eq_true.2 fun f hf => ?_
    rcases hcl f hf with h | h
    · simp [h]
    · simp [h]
  clear again
  refine At_seq ?_
  refine At_region ?_
  refine s_val (x_next_end (l := [80, 65, 66, 76, 78, 77, 75]) rfl hIt) ?_
  (refine s_ex ?_; refine AtR_nil ?_; refine At_seq ?_; refine At_cond_f rfl ?_; refine At_exit rfl ?_; refine At_seq ?_; refine At_region ?_; refine s_mv ?_)
  obtain ⟨xs, hxs⟩ : ∃ xs, xs = nameB k :: (flds k).map (Sc.part x.plain) := ⟨_, rfl⟩
  have hxl : (flds k).length + 1 = xs.length := by rw [hxs]; simp
  have hld : lineD x.plain = line 32 xs := by rw [hxs]; unfold lineD; rw [hkp]
  have hsum : sumL xs ≤ 1000000 := by
    have h1 : ∀ l : List Fld, sumL (l.map (Sc.part x.plain)) ≤ 20000 * l.length := by
      intro l
      induction l with
      | nil => simp [sumL]
      | cons f l ih =>
        have := part_len h hs f
        simp only [sumL, List.map_cons, List.sum_cons, List.length_cons] at ih ⊢
        omega
    have h2 := h1 (flds k)
    rw [hxs]
    simp only [sumL, List.map_cons, List.sum_cons] at h2 ⊢
    omega
  have hll : (line 32 xs).length ≤ 1100000 := by
    have := line_len 32 (nameB k) ((flds k).map (Sc.part x.plain))
    rw [← hxs, List.length_map] at this
    omega
  rw [← hxs] at hO
  rw [hxl] at hO ⊢
  refine s_call x_call (join_calls xs 32 ao co _ hO (by omega) (by omega)) ?_
  rintro _ w9 ⟨rfl, k9⟩
  refine ⟨_, rfl, ?_⟩
  rw [← hld] at hll ⊢
  by_cases hbig : 4096 < (lineD x.plain).length
  · (refine s_as ?_; refine AtR_nil ?_; refine At_seq ?_; refine At_seq ?_; refine At_region ?_; refine s_mv ?_; refine s_lns ?_; refine s_gtr ?_; refine AtR_nil ?_; refine At_cond_t rfl ?_; refine At_seq ?_; refine At_region ?_)
    refine s_val (x_ifaceI rfl) ?_
    (refine s_as ?_; refine s_as ?_; refine AtR_nil ?_)
    refine At_ret2 Tryd.func12 rfl (by conv => lhs; whnf) (by conv => lhs; whnf) ?_
    have he : errD x = 15 := by unfold errD; rw [if_neg (by omega), if_neg hc, if_pos hbig]
    unfold lineV
    rw [he]
    exact ⟨rfl, K8.trans k9⟩
  · (refine s_as ?_; refine AtR_nil ?_; refine At_seq ?_; refine At_seq ?_; refine At_region ?_; refine s_mv ?_; refine s_lns ?_; refine s_gtr ?_; refine AtR_nil ?_; refine At_cond_f rfl ?_; refine At_skip ?_; refine At_seq ?_; refine At_region ?_; refine s_mv ?_; refine s_as ?_; refine s_as ?_; refine AtR_nil ?_)
    refine At_ret2 Tryd.func12 rfl (by conv => lhs; whnf) (by conv => lhs; whnf) ?_
    have he : errD x = 0 := by unfold errD; rw [if_neg (by omega), if_neg hc, if_neg hbig]
    unfold lineV
    rw [he]
    exact ⟨rfl, K8.trans k9⟩
end Go.Proofs.YtgobmphkakmdmaaDoor
