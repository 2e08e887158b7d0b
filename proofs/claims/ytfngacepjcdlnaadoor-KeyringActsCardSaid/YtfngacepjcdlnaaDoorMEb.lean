/- The reference's ring: Add. | Both rings: Clear of the program's, and whether they have the same. -/
import Derived.Test.YtfngacepjcdlnaaDoorMEa
set_option linter.unusedVariables false
namespace Go.Proofs.YtfngacepjcdlnaaDoor
open Go Go.Kx Go.Kr
theorem built166 (v : List (Nat × Value)) : Tryd.prog.built 166 v = Instr.fill (#[(0, 1), (1, 1), (2, 1)][·]?) z166.toArray v := by kernel_rfl
theorem built166_e (id key : List UInt8) : Tryd.prog.built 166 [(0, strV id), (1, strV key)] = some (entC ⟨id, key, 0⟩).toArray := by rw [built166]; rfl
set_option maxRecDepth 100000 in
set_option maxHeartbeats 4000000 in
theorem addR_calls (L : Ring) (key : List UInt8) (ak : Option Addr) (lenk capk : Nat) (r : Nat) (w : World) {D Dk : Nat → Prop} (hR : RefAt w r L D) (hg : Kr.Good L) (hk : SlE w .u8 ak lenk capk (bs8 key) Dk) (hkD : ∀ b, Dk b → ¬ D b) (hlk : lenk ≤ 1000000) :
    Calls Tryd.prog 41 #[.pointer (some ⟨r, 0, none⟩), .slice ak lenk capk] w
      fun e w' => e = .returned (.tuple #[strV (if addOk (idK key) key L = 0 then idK key else List.replicate 16 0), .int .i64 ((addOk (idK key) key L : Nat) : Int)]) ∧
        RefTo w w' r D (if addOk (idK key) key L = 0 then Kr.add (idK key) key L else L) := by
  have hll := hk.len_eq
  simp only [bs8_length] at hll
  subst hll
  have hidl := idK_length key
  have hfew := hg.few
  refine calls_at (n := 96) Tryd.func41 rfl rfl (by simp) ?_
  (refine At_seq ?_; refine At_region ?_; refine s_as ?_; refine s_as ?_; refine AtR_nil ?_; refine At_seq ?_; refine At_region ?_)
  refine AtR_go rfl (AtG_make1 (z := .int .u8 0) rfl rfl (by omega) (by omega) rfl (by omega) (by omega) fun b1 w1 hb1 e1 => ?_)
  have B1 : Blk w1 b1 5 (0, 0) (ints .u8 (bs8 (List.replicate 16 0))) := e1.blk
  have k1 : Kp No w w1 := e1.kp (.inr (by omega))
  clear e1
  have hS1 : SlE w1 .u8 (some ⟨b1, 0, none⟩) 16 16 (bs8 (List.replicate 16 0)) (fun _ => True) := (B1.sl (by simp) (by omega)).e fun _ _ => trivial
  refine s_val (x_conv_bs rfl hS1) ?_
  replace hR := hR.kpn k1
  replace hk := hk.kpn k1
  have z1 := k1.size
  have hback : ∀ {w' L'}, RefTo w1 w' r D L' → RefTo w w' r D L' := fun ⟨D', h1, h2, h3⟩ => ⟨D', h1, fun j hj => (h2 j hj).imp (fun h => h) fun h => by omega, (k1.mono fun _ h => h.elim).trans h3⟩
  by_cases hsh : key.length < 16 ∨ 64 < key.length
  · have ha : addOk (idK key) key L = 2 := by unfold addOk; rw [if_pos hsh]
    rw [ha]
    rcases hsh with h | h
    · (refine s_as ?_; refine AtR_nil ?_; refine At_seq ?_; refine At_seq ?_; refine At_region ?_; refine s_mv ?_; refine s_ln ?_; refine s_lss ?_; refine s_mv ?_; refine s_no rfl rfl rfl rfl ?_; refine s_no rfl rfl rfl rfl ?_; refine s_no rfl rfl rfl rfl ?_; refine s_pt ?_; refine AtR_nil ?_; refine At_cond_t rfl ?_; refine At_seq ?_; refine At_region ?_; refine s_mv ?_; refine s_as ?_; refine s_as ?_; refine AtR_nil ?_)
      refine At_ret2 Tryd.func41 rfl (by conv => lhs; whnf) (by conv => lhs; whnf) ?_
      exact ⟨rfl, hback (refTo_same hR)⟩
    · (refine s_as ?_; refine AtR_nil ?_; refine At_seq ?_; refine At_seq ?_; refine At_region ?_; refine s_mv ?_; refine s_ln ?_; refine s_lss ?_; refine s_mv ?_; refine s_yes rfl rfl rfl rfl ?_; refine g_mv ?_; refine s_yes rfl rfl rfl rfl ?_; refine g_ln ?_; refine s_yes rfl rfl rfl rfl ?_; refine g_gtr ?_; refine s_pf ?_; refine AtR_nil ?_; refine At_cond_t rfl ?_; refine At_seq ?_; refine At_region ?_; refine s_mv ?_; refine s_as ?_; refine s_as ?_; refine AtR_nil ?_)
      refine At_ret2 Tryd.func41 rfl (by conv => lhs; whnf) (by conv => lhs; whnf) ?_
      exact ⟨rfl, hback (refTo_same hR)⟩
  (refine s_as ?_; refine AtR_nil ?_; refine At_seq ?_; refine At_seq ?_; refine At_region ?_; refine s_mv ?_; refine s_ln ?_; refine s_lss ?_; refine s_mv ?_; refine s_yes rfl rfl rfl rfl ?_; refine g_mv ?_; refine s_yes rfl rfl rfl rfl ?_; refine g_ln ?_; refine s_yes rfl rfl rfl rfl ?_; refine g_gtr ?_; refine s_pf ?_; refine AtR_nil ?_; refine At_cond_f rfl ?_; refine At_skip ?_; refine At_seq ?_; refine At_region ?_; refine s_mv ?_)
  refine s_call x_call (idR_calls key ak _ capk _ hk hlk) ?_
  rintro _ w2 ⟨rfl, k2⟩
  refine ⟨_, rfl, ?_⟩
  replace hR := hR.kpn k2
  replace hk := hk.kpn k2
  have z2 := k2.size
  replace hback : ∀ {w' L'}, RefTo w2 w' r D L' → RefTo w w' r D L' := fun ⟨D', h1, h2, h3⟩ => hback ⟨D', h1, fun j hj => (h2 j hj).imp (fun h => h) fun h => by omega, (k2.mono fun _ h => h.elim).trans h3⟩
  clear k1 k2 B1 hS1 z1 z2 hb1
  obtain ⟨a, cap, hB, hO, hD⟩ := hR.es
  (refine s_as ?_; refine AtR_nil ?_; refine At_seq ?_; refine At_region ?_; refine s_mv ?_; refine s_mv ?_)
  refine s_call x_call (at_calls L (idK key) r _ hR hg) ?_
  rintro _ w3 ⟨rfl, rfl⟩
  refine ⟨_, rfl, ?_⟩
  rcases Bool.eq_false_or_eq_true (hit (idK key) L) with hh | hh
  · have ha : addOk (idK key) key L = 0 := by unfold addOk; rw [if_neg hsh, if_neg (by rw [hh]; simp)]
    obtain ⟨hl, e1, e2⟩ := ent_eq hh
    obtain ⟨b, sp, rfl, hE, hEl⟩ := own_ref' hO (by omega)
    rw [ha, atR_hit hh]
    simp only [if_true]
    (refine s_as ?_; refine AtR_nil ?_; refine At_seq ?_; refine At_seq ?_; refine At_region ?_; refine s_mv ?_; refine s_geq ?_; refine AtR_nil ?_; refine At_cond_t rfl ?_; refine At_seq ?_)
    have kd := Kp.drew (S := No) (w := w2)
    let S : World → Prop := fun w' => Blk w' r 83 (0, 0) [.slice (some ⟨b, 0, none⟩) L.length cap] ∧ Blk w' b 166 (0, 0) (refC L ++ sp) ∧ SlE w' .u8 ak key.length capk (bs8 key) Dk
    refine AtL_draw S 9 rfl ?_
    have hS : S w2.drew := ⟨hB.kp kd fun h => h, hE.kp kd fun h => h, hk.kpn kd⟩
    (apply AtL_take 0 rfl (by decide +kernel) (by exact rfl); (focus (intro wx hx; skip; exact x_move (by conv => lhs; whnf))); (focus (exact hS)))
    (apply AtL_take 1 rfl (by decide +kernel) (by exact rfl); (focus (intro wx hx; skip; exact x_nilCheck rfl)); (focus (exact hS)))
    (apply AtL_take 4 rfl (by decide +kernel) (by exact rfl); (focus (intro wx hx; skip; exact x_move (by conv => lhs; whnf))); (focus (exact hS)))
    (apply AtL_take 5 rfl (by decide +kernel) (by exact rfl); (focus (intro wx hx; skip; exact x_move (by conv => lhs; whnf))); (focus (exact hS)))
    -- ready now: 2 fieldAddr 83 t30 0, 6 convert 31 9 t34
    refine AtL_take 2 rfl (by decide +kernel) rfl (fun wx hx => x_fieldAddrN rfl rfl) hS ?_
    refine AtL_take 3 rfl (by decide +kernel) rfl (fun wx hx => x_load1 rfl hx.1 rfl) hS ?_
    -- ready now: 6 convert 31 9 t34
    refine AtL_take 6 rfl (by decide +kernel) rfl (fun wx hx => x_conv_bs rfl hx.2.2) hS ?_
    refine AtL_take 7 rfl (by decide +kernel) rfl (fun wx hx => x_indexAddr3 rfl rfl hl) hS ?_
    refine AtL_take 8 rfl (by decide +kernel) rfl (fun wx hx => x_fieldAddrN rfl rfl) hS ?_
    refine L_skip 9 rfl (by decide +kernel) rfl (r_store1 (v := strV key) rfl rfl hS.2.1 (by rw [List.length_append, refC_length]; omega) rfl rfl) ?_
    intro w3 e3
    refine ⟨.inl rfl, AtL_done (by decide +kernel) ?_⟩
    obtain ⟨R3, k3⟩ := (hR.kpn kd).store (e := { L[pos (idK key) L] with key := key }) hS.1 (hO.kp kd fun _ _ h => h) (hD _ rfl) hl (by omega) rfl hS.2.1 hEl e3
    (refine At_seq ?_; refine At_region ?_; refine s_mv ?_; refine s_as ?_; refine s_as ?_; refine AtR_nil ?_)
    refine At_ret2 Tryd.func41 rfl (by conv => lhs; whnf) (by conv => lhs; whnf) ?_
    refine ⟨rfl, hback ⟨D, by unfold Kr.add; rw [if_pos hh, e1]; exact R3, fun _ h => .inl h, (kd.mono fun _ h => h.elim).trans k3⟩⟩
  rw [atR_no hh]
  by_cases h16 : 16 ≤ L.length
  · have ha : addOk (idK key) key L = 12 := by unfold addOk; rw [if_neg hsh, if_pos ⟨hh, h16⟩]
    rw [ha]
    (refine s_as ?_; refine AtR_nil ?_; refine At_seq ?_; refine At_seq ?_; refine At_region ?_; refine s_mv ?_; refine s_geq ?_; refine AtR_nil ?_; refine At_cond_f rfl ?_; refine At_skip ?_; refine At_seq ?_; refine At_seq ?_; refine At_region ?_; refine s_mv ?_; refine s_nc ?_; refine s_fa ?_; refine s_ld ?_; refine s_ln ?_; refine s_geq ?_; refine AtR_nil ?_; refine At_cond_t rfl ?_; refine At_seq ?_; refine At_region ?_; refine s_mv ?_; refine s_as ?_; refine s_as ?_; refine AtR_nil ?_)
    refine At_ret2 Tryd.func41 rfl (by conv => lhs; whnf) (by conv => lhs; whnf) ?_
    exact ⟨rfl, hback (refTo_same hR)⟩
  have ha : addOk (idK key) key L = 0 := by unfold addOk; rw [if_neg hsh, if_neg (by omega)]
  rw [ha]
  simp only [if_true]
  (refine s_as ?_; refine AtR_nil ?_; refine At_seq ?_; refine At_seq ?_; refine At_region ?_; refine s_mv ?_; refine s_geq ?_; refine AtR_nil ?_; refine At_cond_f rfl ?_; refine At_skip ?_; refine At_seq ?_; refine At_seq ?_; refine At_region ?_; refine s_mv ?_; refine s_nc ?_; refine s_fa ?_; refine s_ld ?_; refine s_ln ?_; refine s_geq ?_; refine AtR_nil ?_; refine At_cond_f rfl ?_; refine At_skip ?_; refine At_seq ?_; refine At_region ?_; refine s_as ?_; refine AtR_nil ?_; refine At_seq ?_; refine At_region ?_; refine s_as ?_; refine AtR_nil ?_; refine At_seq ?_; refine At_block ?_)
  have hk2 := hk
  have hBw := hB
  have hOw := hO
  refine At_while (fun s : Nat × Option Addr × Nat => [(0, .pointer (some ⟨r, 0, none⟩)), (1, .slice ak key.length capk), (7, strV (idK key)), (9, .slice s.2.1 s.1 s.2.2), (10, .int .i64 (s.1 : Int))])
    (fun s w' => s.1 ≤ pos (idK key) L ∧ Own w' 166 3 s.2.1 s.1 s.2.2 (refC (L.take s.1)) ∧ (∀ j, blkOf s.2.1 j → w2.heap.size ≤ j) ∧ Kp No w2 w') (fun s => L.length - s.1) (0, none, 0) ⟨rfl, rfl, rfl, rfl, rfl, trivial⟩
    ⟨by omega, Own.nil _ _ _, fun j hj => by simp [blkOf] at hj, Kp.refl _ _⟩ ?_
  rintro ⟨i, ai, ci⟩ w4 junk ⟨hi, ho, hfr, K⟩ again
  simp only at hi ho hfr again ⊢
  have hpl := pos_le (idK key) L
  replace hB := hBw.kp K fun h => h
  replace hO := hOw.kp K fun _ _ h => h
  replace hk := hk2.kpn K
  have hsorted := hg.sorted
  by_cases hlt : i < L.length
  · obtain ⟨b, sp, rfl, hE⟩ := own_ref hO (by omega)
    (refine At_seq ?_; refine At_seq ?_; refine At_region ?_; refine s_mv ?_; refine s_mv ?_; refine s_nc ?_; refine s_fa ?_; refine s_ld ?_; refine s_ln ?_; refine s_lss ?_; refine s_mv ?_; refine s_yes rfl rfl rfl rfl ?_; refine g_mv ?_; refine s_yes rfl rfl rfl rfl ?_; refine g_nc ?_; refine s_yes rfl rfl rfl rfl ?_; refine g_fa ?_; refine s_yes rfl rfl rfl rfl ?_; refine g_ld ?_; refine s_yes rfl rfl rfl rfl ?_; refine g_mv ?_)
    refine s_yes rfl rfl rfl rfl (g_val (x_indexAddr3 rfl rfl hlt) ?_)
    refine s_yes rfl rfl rfl rfl (g_val (x_fieldAddrN rfl rfl) ?_)
    refine s_yes rfl rfl rfl rfl (g_val (x_load1 rfl hE (refC_get (o := 0) sp hlt (by omega))) ?_)
    (refine s_yes rfl rfl rfl rfl ?_; refine g_mv ?_)
    refine s_yes rfl rfl rfl rfl (g_val (x_lss_str rfl rfl) ?_)
    by_cases hp : i < pos (idK key) L
    · rw [show lt (L[i]).id (idK key) = true from pos_lt hlt hp]
      (refine s_pt ?_; refine AtR_nil ?_; refine At_cond_t rfl ?_; refine At_skip ?_; refine At_block ?_; refine At_seq ?_; refine At_region ?_; refine s_mv ?_; refine s_mv ?_; refine s_nc ?_; refine s_fa ?_; refine s_ld ?_; refine s_mv ?_)
      refine s_val (x_indexAddr3 rfl rfl hlt) ?_
      refine s_val (x_loadN (vs := entC (L[i])) rfl hE rfl (fun j hj => refC_get sp hlt hj)) ?_
      refine AtR_go rfl (G_val (r_buildSliceA (z := .agg z166.toArray) rfl (by rfl) (by simp [Value.cells, z166])) ?_)
      rintro _ w5 ⟨b2, rfl, hb2, e2⟩
      have B2 : Blk w5 b2 166 (0, 0) (entC (L[i])) := e2.blk
      have k2 : Kp No w4 w5 := e2.kp (.inr (by omega))
      clear e2
      have ho2 := ho.kp k2 fun _ _ h => h
      have hsrc : Src Tryd.prog 3 81 (.slice (some ⟨b2, 0, none⟩) 1 1) 1 (entC (L[i])) w5 :=
        Src.ofSlice w5 (e' := 166) (by exact (inferInstance : TU Tryd.prog 81 (.slice 166)).h) ⟨b2, 0, none⟩ 1 1 _ (by rfl) (fun j u hj => by rw [add_none, Nat.zero_add, B2.cell, hj]) (fun u hu => by simp [entC] at hu; rcases hu with rfl | rfl | rfl <;> rfl)
      refine AtR_go rfl (AtG_append (tx := 81) (s := 3) rfl rfl ho2 hsrc (by simp [Value.cells, z166]) (by omega) (by simp only [maxLen]; omega) (by omega) fun a3 c3 w6 ho3 k3 hf3 => ?_)
      have k13 : Kp No w2 w6 := (K.trans k2).trans' k3 fun j hj => .inr (hfr j hj)
      have ho4 : Own w6 166 3 a3 (i + 1) c3 (refC (L.take (i + 1))) := by
        rw [List.take_add_one, List.getElem?_eq_getElem hlt, refC_app, show refC (some L[i]).toList = entC (L[i]) by simp [refC]]
        exact ho3
      (refine s_as ?_; refine AtR_nil ?_; refine At_region ?_; refine s_mv ?_; refine s_ad ?_; refine s_as ?_; refine AtR_nil ?_; refine At_inBlock ?_)
      refine again (i + 1, a3, c3) _ _ ⟨rfl, rfl, rfl, rfl, rfl, trivial⟩ ⟨hp, ho4, fun j hj => ?_, k13⟩ (by simp only; omega)
      rcases hf3 with rfl | ⟨b, rfl, hb⟩
      · exact hfr j hj
      · simp [blkOf] at hj; have := (K.trans k2).size; omega
    · have hip : i = pos (idK key) L := by omega
      rw [show lt (L[i]).id (idK key) = false from pos_ge hsorted hlt (by omega)]
      (refine s_pt ?_; refine AtR_nil ?_; refine At_cond_f rfl ?_; refine At_exit rfl ?_; refine At_seq ?_; refine At_region ?_; refine s_mv ?_; refine s_mv ?_; refine s_mv ?_)
      have hpl2 : i ≤ 16 := by omega
      refine s_val (x_conv_bs rfl hk) ?_
      refine s_val (x_build rfl (built166_e _ _)) ?_
      refine AtR_go rfl (G_val (r_buildSliceA (z := .agg z166.toArray) rfl (by rfl) (by simp [Value.cells, z166])) ?_)
      rintro _ w5 ⟨b2, rfl, hb2, e2⟩
      have B2 : Blk w5 b2 166 (0, 0) (entC ⟨idK key, key, 0⟩) := e2.blk
      have k2 : Kp No w4 w5 := e2.kp (.inr (by omega))
      clear e2
      have ho2 := ho.kp k2 fun _ _ h => h
      have hsrc : Src Tryd.prog 3 81 (.slice (some ⟨b2, 0, none⟩) 1 1) 1 (entC ⟨idK key, key, 0⟩) w5 :=
        Src.ofSlice w5 (e' := 166) (by exact (inferInstance : TU Tryd.prog 81 (.slice 166)).h) ⟨b2, 0, none⟩ 1 1 _ (by rfl) (fun j u hj => by rw [add_none, Nat.zero_add, B2.cell, hj]) (fun u hu => by simp [entC] at hu; rcases hu with rfl | rfl | rfl <;> rfl)
      refine AtR_go rfl (AtG_append (tx := 81) (s := 3) rfl rfl ho2 hsrc (by simp [Value.cells, z166]) (by omega) (by simp only [maxLen]; omega) (by omega) fun a3 c3 w6 ho3 k3 hf3 => ?_)
      have k13 : Kp No w2 w6 := (K.trans k2).trans' k3 fun j hj => .inr (hfr j hj)
      have hf4 : ∀ j, blkOf a3 j → w2.heap.size ≤ j := fun j hj => by
        rcases hf3 with rfl | ⟨b, rfl, hb⟩
        · exact hfr j hj
        · simp [blkOf] at hj; have := (K.trans k2).size; omega
      have hB6 := hBw.kp k13 fun h => h
      have hO6 := hOw.kp k13 fun _ _ h => h
      clear ho2 hsrc B2 k2 k3 hf3 ho hfr
      (refine s_as ?_; refine AtR_nil ?_; refine At_seq ?_; refine At_region ?_; refine s_mv ?_; refine s_mv ?_; refine s_mv ?_; refine s_nc ?_; refine s_fa ?_; refine s_ld ?_; refine s_mv ?_)
      have hcap := hO6.2.1
      refine s_val (x_slice_l rfl rfl (by omega) (by omega) (by omega)) ?_
      rw [Int.toNat_natCast, Nat.zero_add]
      obtain ⟨b', sp', e', hE6⟩ := own_ref hO6 (by omega)
      cases e'
      have hrl : (refC (L.drop i)).length = (L.length - i) * 3 := by rw [refC_length, List.length_drop]
      have hsrc2 : Src Tryd.prog 3 81 (.slice (some ⟨b, i * 3, none⟩) (L.length - i) (cap - i)) (L.length - i) (refC (L.drop i)) w6 :=
        Src.ofSlice w6 (e' := 166) (by exact (inferInstance : TU Tryd.prog 81 (.slice 166)).h) ⟨b, i * 3, none⟩ (L.length - i) (cap - i) _ hrl (fun j u hj => by
          rw [add_none, hE6.cell]
          have e3 : refC L = refC (L.take i) ++ refC (L.drop i) := by rw [← refC_app, List.take_append_drop]
          have hj2 : j < (refC (L.drop i)).length := (List.getElem?_eq_some_iff.1 hj).1
          have hl3 : (refC (L.take i)).length = i * 3 := by rw [refC_length, List.length_take]; omega
          rw [e3, List.append_assoc, List.getElem?_append_right (by omega), hl3, Nat.add_sub_cancel_left, List.getElem?_append_left hj2]
          exact hj) (fun u hu => by
          simp only [refC, List.mem_flatMap] at hu
          obtain ⟨e, _, hu⟩ := hu
          simp [entC] at hu; rcases hu with rfl | rfl | rfl <;> rfl)
      refine AtR_go rfl (AtG_append (tx := 81) (s := 3) rfl rfl ho3 hsrc2 (by simp [Value.cells, z166]) (by omega) (by simp only [maxLen]; omega) (by omega) fun a4 c4 w7 ho4 k4 hf5 => ?_)
      have k27 : Kp No w2 w7 := k13.trans' k4 fun j hj => .inr (hf4 j hj)
      have hB7 := hBw.kp k27 fun h => h
      have hf7 : ∀ j, blkOf a4 j → w2.heap.size ≤ j := fun j hj => by
        rcases hf5 with rfl | ⟨b, rfl, hb⟩
        · exact hf4 j hj
        · simp [blkOf] at hj; have := k13.size; omega
      have hadd : Kr.add (idK key) key L = L.take i ++ ⟨idK key, key, 0⟩ :: L.drop i := by unfold Kr.add; rw [if_neg (by rw [hh]; decide), hip]
      have hal : (Kr.add (idK key) key L).length = i + 1 + (L.length - i) := by rw [hadd]; simp; omega
      have hac : refC (Kr.add (idK key) key L) = refC (L.take i) ++ entC ⟨idK key, key, 0⟩ ++ refC (L.drop i) := by rw [hadd, refC_app, refC_cons, List.append_assoc]
      rw [← hal, ← hac] at ho4
      (refine s_nc ?_; refine s_fa ?_)
      refine AtR_go rfl (G_skip (r_store1 (v := .slice a4 (i + 1 + (L.length - i)) c4) rfl rfl hB7 (by simp) rfl rfl) fun w8 e8 => ?_)
      have k8 : Kp (fun j => j = r) w7 w8 := e8.kp (.inl rfl)
      have B8 : Blk w8 r 83 (0, 0) [.slice a4 (i + 1 + (L.length - i)) c4] := e8.blk
      rw [← hal] at B8
      have ho8 := ho4.kp k8 fun j hj h => by obtain ⟨_, hB'⟩ := ho4.blk_of hj; exact hB'.ne hB7 (by decide) h
      (refine AtR_nil ?_; refine At_seq ?_; refine At_region ?_; refine s_mv ?_; refine s_as ?_; refine s_as ?_; refine AtR_nil ?_)
      refine At_ret2 Tryd.func41 rfl (by conv => lhs; whnf) (by conv => lhs; whnf) ?_
      refine ⟨rfl, hback ⟨fun j => D j ∨ blkOf a4 j, ⟨⟨a4, c4, B8, ho8, fun j hj => .inr hj⟩, .inl hR.dr, ?_⟩, ?_, ?_⟩⟩
      · rintro j (hj | hj)
        · have := hR.dlt j hj; have := k27.size; have := k8.size; omega
        · exact ho8.lt j hj
      · rintro j (hj | hj)
        · exact .inl hj
        · exact .inr (hf7 j hj)
      · exact (k27.mono fun _ h => h.elim).trans (k8.mono (by rintro j rfl; exact hR.dr))
  have hip : i = pos (idK key) L := by omega
  (refine At_seq ?_; refine At_seq ?_; refine At_region ?_; refine s_mv ?_; refine s_mv ?_; refine s_nc ?_; refine s_fa ?_; refine s_ld ?_; refine s_ln ?_; refine s_lss ?_; refine s_mv ?_; refine s_no rfl rfl rfl rfl ?_; refine s_no rfl rfl rfl rfl ?_; refine s_no rfl rfl rfl rfl ?_; refine s_no rfl rfl rfl rfl ?_; refine s_no rfl rfl rfl rfl ?_; refine s_no rfl rfl rfl rfl ?_; refine s_no rfl rfl rfl rfl ?_; refine s_no rfl rfl rfl rfl ?_; refine s_no rfl rfl rfl rfl ?_; refine s_no rfl rfl rfl rfl ?_; refine s_pf ?_; refine AtR_nil ?_; refine At_cond_f rfl ?_; refine At_exit rfl ?_; refine At_seq ?_; refine At_region ?_; refine s_mv ?_; refine s_mv ?_; refine s_mv ?_)
  have hpl2 : i ≤ 16 := by omega
  refine s_val (x_conv_bs rfl hk) ?_
  refine s_val (x_build rfl (built166_e _ _)) ?_
  refine AtR_go rfl (G_val (r_buildSliceA (z := .agg z166.toArray) rfl (by rfl) (by simp [Value.cells, z166])) ?_)
  rintro _ w5 ⟨b2, rfl, hb2, e2⟩
  have B2 : Blk w5 b2 166 (0, 0) (entC ⟨idK key, key, 0⟩) := e2.blk
  have k2 : Kp No w4 w5 := e2.kp (.inr (by omega))
  clear e2
  have ho2 := ho.kp k2 fun _ _ h => h
  have hsrc : Src Tryd.prog 3 81 (.slice (some ⟨b2, 0, none⟩) 1 1) 1 (entC ⟨idK key, key, 0⟩) w5 :=
    Src.ofSlice w5 (e' := 166) (by exact (inferInstance : TU Tryd.prog 81 (.slice 166)).h) ⟨b2, 0, none⟩ 1 1 _ (by rfl) (fun j u hj => by rw [add_none, Nat.zero_add, B2.cell, hj]) (fun u hu => by simp [entC] at hu; rcases hu with rfl | rfl | rfl <;> rfl)
  refine AtR_go rfl (AtG_append (tx := 81) (s := 3) rfl rfl ho2 hsrc (by simp [Value.cells, z166]) (by omega) (by simp only [maxLen]; omega) (by omega) fun a3 c3 w6 ho3 k3 hf3 => ?_)
  have k13 : Kp No w2 w6 := (K.trans k2).trans' k3 fun j hj => .inr (hfr j hj)
  have hf4 : ∀ j, blkOf a3 j → w2.heap.size ≤ j := fun j hj => by
    rcases hf3 with rfl | ⟨b, rfl, hb⟩
    · exact hfr j hj
    · simp [blkOf] at hj; have := (K.trans k2).size; omega
  have hB6 := hBw.kp k13 fun h => h
  have hO6 := hOw.kp k13 fun _ _ h => h
  clear ho2 hsrc B2 k2 k3 hf3 ho hfr
  (refine s_as ?_; refine AtR_nil ?_; refine At_seq ?_; refine At_region ?_; refine s_mv ?_; refine s_mv ?_; refine s_mv ?_; refine s_nc ?_; refine s_fa ?_; refine s_ld ?_; refine s_mv ?_)
  have hcap := hO6.2.1
  refine AtR_go rfl (G_val (r_slice_from rfl (fun ad h => by obtain ⟨_, _, _, h4⟩ := hO6; rcases h4 with ⟨e, _⟩ | ⟨b, sp, e, _⟩ <;> rw [e] at h <;> cases h; rfl) rfl (by omega) (by omega)) ?_)
  rintro _ _ ⟨rfl, a5, rfl⟩
  have hz : L.length - i = 0 := by omega
  have hdr : refC (L.drop i) = [] := by rw [List.drop_eq_nil_of_le (by omega)]; rfl
  have hsrc2 : Src Tryd.prog 3 81 (.slice a5 (L.length - i) (cap - i)) (L.length - i) (refC (L.drop i)) w6 := by
    rw [hz, hdr]
    cases a5 with
    | none => exact Src.ofNil w6 (by exact (inferInstance : TU Tryd.prog 81 (.slice 166)).h) _
    | some ad => exact Src.ofSlice w6 (e' := 166) (by exact (inferInstance : TU Tryd.prog 81 (.slice 166)).h) ad 0 _ [] rfl (fun j u hj => by simp at hj) (fun u hu => by simp at hu)
  refine AtR_go rfl (AtG_append (tx := 81) (s := 3) rfl rfl ho3 hsrc2 (by simp [Value.cells, z166]) (by omega) (by simp only [maxLen]; omega) (by omega) fun a4 c4 w7 ho4 k4 hf5 => ?_)
  have k27 : Kp No w2 w7 := k13.trans' k4 fun j hj => .inr (hf4 j hj)
  have hB7 := hBw.kp k27 fun h => h
  have hf7 : ∀ j, blkOf a4 j → w2.heap.size ≤ j := fun j hj => by
    rcases hf5 with rfl | ⟨b, rfl, hb⟩
    · exact hf4 j hj
    · simp [blkOf] at hj; have := k13.size; omega
  have hadd : Kr.add (idK key) key L = L.take i ++ ⟨idK key, key, 0⟩ :: L.drop i := by unfold Kr.add; rw [if_neg (by rw [hh]; decide), hip]
  have hal : (Kr.add (idK key) key L).length = i + 1 + (L.length - i) := by rw [hadd]; simp; omega
  have hac : refC (Kr.add (idK key) key L) = refC (L.take i) ++ entC ⟨idK key, key, 0⟩ ++ refC (L.drop i) := by rw [hadd, refC_app, refC_cons, List.append_assoc]
  rw [← hal, ← hac] at ho4
  (refine s_nc ?_; refine s_fa ?_)
  refine AtR_go rfl (G_skip (r_store1 (v := .slice a4 (i + 1 + (L.length - i)) c4) rfl rfl hB7 (by simp) rfl rfl) fun w8 e8 => ?_)
  have k8 : Kp (fun j => j = r) w7 w8 := e8.kp (.inl rfl)
  have B8 : Blk w8 r 83 (0, 0) [.slice a4 (i + 1 + (L.length - i)) c4] := e8.blk
  rw [← hal] at B8
  have ho8 := ho4.kp k8 fun j hj h => by obtain ⟨_, hB'⟩ := ho4.blk_of hj; exact hB'.ne hB7 (by decide) h
  (refine AtR_nil ?_; refine At_seq ?_; refine At_region ?_; refine s_mv ?_; refine s_as ?_; refine s_as ?_; refine AtR_nil ?_)
  refine At_ret2 Tryd.func41 rfl (by conv => lhs; whnf) (by conv => lhs; whnf) ?_
  refine ⟨rfl, hback ⟨fun j => D j ∨ blkOf a4 j, ⟨⟨a4, c4, B8, ho8, fun j hj => .inr hj⟩, .inl hR.dr, ?_⟩, ?_, ?_⟩⟩
  · rintro j (hj | hj)
    · have := hR.dlt j hj; have := k27.size; have := k8.size; omega
    · exact ho8.lt j hj
  · rintro j (hj | hj)
    · exact .inl hj
    · exact .inr (hf7 j hj)
  · exact (k27.mono fun _ h => h.elim).trans (k8.mono (by rintro j rfl; exact hR.dr))
end Go.Proofs.YtfngacepjcdlnaaDoor

namespace Go.Kx
open Go
section
variable {P : Program} {n : Nat} {env : Env} {w : World} {dst : Option Tmp} {ty : TypeId} {pos : String} {aft : Array Edge} {g : Option (Nat × Bool)}
theorem x_indexAddrM {T E : TypeId} {s : Nat} [hT : TU P T (.slice E)] [hs : TSz P E s] {x ix : Operand} {b len cap : Nat} {k : IntKind} {j : Nat}
    (hx : ev n env x = .slice (some ⟨b, 0, none⟩) len cap) (hi : ev n env ix = .int k (j : Int)) (h1 : j < len) :
    Run P n env ⟨dst, .indexAddr T x ix, ty, pos, aft, g⟩ w (.ok (.value (.pointer (some ⟨b, j * s, none⟩))) w) := by
  have h := x_indexAddr (P := P) (w := w) (dst := dst) (ty := ty) (pos := pos) (aft := aft) (g := g) (T := T) hx hi (by omega) (by omega)
  rwa [Int.toNat_natCast, Nat.zero_add] at h
end
end Go.Kx
namespace Go.Proofs.YtfngacepjcdlnaaDoor
open Go Go.Kx Go.Kr
set_option maxRecDepth 100000 in
set_option maxHeartbeats 1000000 in
theorem clear_calls (xs : List En) (r bo : Nat) (w : World) {D : Nat → Prop} (hR : RingAt w r bo xs D) :
    Calls Tryd.prog 46 #[.pointer (some ⟨r, 0, none⟩)] w fun e w' => e = .returned (.tuple #[]) ∧ RingTo w w' r bo D [] := by
  refine calls_at (n := 19) Tryd.func46 rfl rfl (by simp) ?_
  obtain ⟨a, cap, R, hO, hOD⟩ := hR.es
  have hf := hR.few
  (refine At_seq ?_; refine At_seq ?_; refine At_region ?_; refine s_mv ?_; refine s_nc ?_; refine s_fa ?_; refine s_ld ?_; refine s_ln ?_; refine s_mv ?_; refine AtR_nil ?_; refine At_block ?_)
  refine At_while (fun s : Nat => [(0, .pointer (some ⟨r, 0, none⟩)), (7, .slice a xs.length cap), (8, .int .i64 (xs.length : Int)), (9, .int .i64 (s : Int))])
    (fun s w' => s ≤ xs.length ∧ Blk w' r 125 (0, 0) [.pointer (some ⟨bo, 0, none⟩), .slice a xs.length cap] ∧ Own w' 135 1 a xs.length cap (xs.map ptrE) ∧ (∀ j (h : j < xs.length), s ≤ j → EnAt w' xs[j]) ∧ Kp D w w') (fun s => xs.length - s) 0 ⟨rfl, rfl, rfl, rfl, trivial⟩
    ⟨by omega, R, hO, fun j h _ => (hR.en _ (List.getElem_mem h)).1, Kp.refl _ _⟩ ?_
  rintro i w1 junk ⟨hi, R1, hO1, hE1, K⟩ again
  by_cases hlt : i < xs.length
  · obtain ⟨ab, sp, rfl, _, _, _⟩ := hO1.some_of (by have := hO1.2.1; omega)
    have hE := hE1 i hlt (Nat.le_refl _)
    have hg : xs.getD i default = xs[i] := by simp [List.getD, hlt]
    obtain ⟨_, hd1, hd2⟩ := hR.en _ (List.getElem_mem hlt)
    (refine At_seq ?_; refine At_region ?_; refine s_lss ?_; refine AtR_nil ?_; refine At_seq ?_; refine At_cond_t rfl ?_; refine At_skip ?_; refine At_seq ?_; refine At_block ?_; refine At_seq ?_; refine At_region ?_; refine s_ia ?_)
    refine s_val (x_load_ptr rfl (own_seg hO1) hlt) ?_
    rw [hg]
    (refine s_as ?_; refine AtR_nil ?_; refine At_region ?_; refine s_mv ?_)
    refine s_call x_call (wipe_calls xs[i] _ hE) ?_
    rintro _ w2 ⟨rfl, _, k2⟩
    refine ⟨_, rfl, ?_⟩
    (refine AtR_nil ?_; refine At_inBlock ?_; refine At_region ?_; refine s_ad ?_; refine s_mv ?_; refine AtR_nil ?_)
    refine again (i + 1) _ _ ⟨rfl, rfl, rfl, rfl, trivial⟩ ⟨hlt, R1.kp k2 ?_, hO1.kp k2 ?_, fun j h hj => (hE1 j h (by omega)).kp k2 ?_ ?_, K.trans (k2.mono ?_)⟩ (by omega)
    · rintro (h | h)
      · exact R1.ne hE.row (by decide) h
      · obtain ⟨_, hB⟩ := hE.key.blk_of h; exact R1.ne hB (by decide) rfl
    · rintro c hc (h | h)
      · obtain ⟨_, hB'⟩ := hO1.blk_of hc; exact hB'.ne hE.row (by decide) h
      · obtain ⟨_, hB'⟩ := hO1.blk_of hc; obtain ⟨_, hB⟩ := hE.key.blk_of h; exact hB'.ne hB (by decide) rfl
    · have hap := List.pairwise_iff_getElem.1 hR.ap i j hlt h (by omega)
      rintro (h' | h')
      · exact hap.1 h'.symm
      · obtain ⟨_, hB⟩ := hE.key.blk_of h'; exact (hE1 j h (by omega)).row.ne hB (by decide) rfl
    · have hap := List.pairwise_iff_getElem.1 hR.ap i j hlt h (by omega)
      rintro c hc (h' | h')
      · obtain ⟨_, hB⟩ := (hE1 j h (by omega)).key.blk_of hc; exact hB.ne hE.row (by decide) h'
      · exact hap.2 c h' hc
    · rintro c (rfl | hc)
      · exact hd1
      · exact hd2 c hc
  have hie : i = xs.length := by omega
  subst hie
  clear again
  (refine At_seq ?_; refine At_region ?_; refine s_lss ?_; refine AtR_nil ?_; refine At_seq ?_; refine At_cond_f rfl ?_; refine At_exit rfl ?_; refine At_region ?_; refine s_mv ?_; refine s_nc ?_; refine s_fa ?_)
  refine AtR_go rfl (G_skip (r_store1 (v := .slice none 0 0) rfl rfl R1 (by simp) rfl rfl) fun w2 e2 => ?_)
  have k2 : Kp (fun j => j = r) w1 w2 := e2.kp (.inl rfl)
  have K2 : Kp D w w2 := K.trans (k2.mono (by rintro j rfl; exact hR.dr))
  obtain ⟨fz, hc⟩ := hR.con
  (refine AtR_nil ?_)
  exact At_end0 Tryd.func46 rfl ⟨rfl, [], D, ⟨⟨none, 0, e2.blk, Own.nil _ _ _, fun j hj => by simp [blkOf] at hj⟩, hR.ob.kp K2 hR.nob, ⟨fz, hc.kp K2 hR.ncon⟩, hR.nob, hR.ncon, hR.dr, (fun x hx => by cases hx), List.Pairwise.nil, Nat.zero_le _, fun j hj => Nat.lt_of_lt_of_le (hR.dlt j hj) K2.size⟩, rfl, fun j hj => .inl hj, K2⟩
theorem own_at {w : World} {E : TypeId} {s m cap : Nat} {a : Option Addr} {cs : List Value} (h : Own w E s a m cap cs) (h0 : 0 < m) : ∃ b sp, a = some ⟨b, 0, none⟩ ∧ Blk w b E (0, 0) (cs ++ sp) ∧ Seg w b 0 cs := by
  obtain ⟨_, h2, _, h4⟩ := h
  rcases h4 with ⟨_, h⟩ | ⟨b, sp, e, hB, hl⟩
  · omega
  · exact ⟨b, sp, e, hB, fun j hj => by rw [Nat.zero_add, hB.cell, List.getElem?_append_left hj]⟩
theorem idCells_seg : ∀ {xs : List En} {i : Nat} {w : World} {b o : Nat} (h : i < xs.length) (_ : ∀ x ∈ xs, x.e.id.length = 16), Seg w b o (idCells xs) → Seg w b (o + i * 16) (ints .u8 (bs8 (xs[i]).e.id))
  | [], i, w, b, o, h, _, _ => by simp at h
  | x :: xs, 0, w, b, o, h, hx, hs => fun j hj => by
    have e := hx x (List.mem_cons_self ..)
    rw [Nat.zero_mul, Nat.add_zero]
    have := hs j (by simp [idCells] at hj ⊢; omega)
    rw [this]
    exact List.getElem?_append_left hj
  | x :: xs, i + 1, w, b, o, h, hx, hs => by
    have e := hx x (List.mem_cons_self ..)
    have hl : (ints .u8 (bs8 x.e.id)).length = 16 := by simp [e]
    have h2 : Seg w b (o + 16) (idCells xs) := fun j hj => by
      have := hs (16 + j) (by rw [idCells, List.flatMap_cons, List.length_append, hl]; unfold idCells at hj; omega)
      rw [Nat.add_assoc, this, idCells, List.flatMap_cons, List.getElem?_append_right (by omega), hl]
      congr 1; omega
    have := idCells_seg (i := i) (by simpa using h) (fun y hy => hx y (List.mem_cons_of_mem _ hy)) h2
    rw [show o + (i + 1) * 16 = o + 16 + i * 16 by omega]
    exact this
set_option maxRecDepth 100000 in
set_option maxHeartbeats 4000000 in
theorem same_calls (xs : List En) (r bo q : Nat) (w : World) {D D2 : Nat → Prop} (hR : RingAt w r bo xs D) (hQ : RefAt w q (ents xs) D2) (hg : Kr.Good (ents xs)) :
    Calls Tryd.prog 47 #[.pointer (some ⟨r, 0, none⟩), .pointer (some ⟨q, 0, none⟩)] w fun e w' => e = .returned (.bool true) ∧ Kp No w w' := by
  refine calls_at (n := 56) Tryd.func47 rfl rfl (by simp) ?_
  obtain ⟨a, cap, hB, hO, _⟩ := hQ.es
  have hfew := hg.few
  have hids : ∀ x ∈ xs, x.e.id.length = 16 := fun x hx => hg.ids x.e (List.mem_map.2 ⟨x, hx, rfl⟩)
  rw [ents_length] at hB
  (refine At_seq ?_; refine At_region ?_; refine s_as ?_; refine AtR_nil ?_; refine At_seq ?_; refine At_region ?_; refine s_mv ?_)
  refine s_call x_call (keys_calls xs r bo _ hR) ?_
  rintro _ w1 ⟨a', cap', rfl, hK, _, k1⟩
  refine ⟨_, rfl, ?_⟩
  have hB1 := hB.kp k1 fun h => h
  have hle := hK.2.1
  (refine s_as ?_; refine AtR_nil ?_; refine At_seq ?_; refine At_seq ?_; refine At_region ?_; refine s_mv ?_; refine s_ln ?_; refine s_mv ?_; refine s_nc ?_; refine s_fa ?_; refine s_ld ?_; refine s_ln ?_; refine s_neq ?_; refine AtR_nil ?_; refine At_cond_f rfl ?_; refine At_skip ?_; refine At_seq ?_; refine At_seq ?_; refine At_region ?_; refine s_as ?_; refine AtR_nil ?_; refine At_block ?_)
  refine At_while (fun s : Nat => [(0, .pointer (some ⟨r, 0, none⟩)), (1, .pointer (some ⟨q, 0, none⟩)), (5, .slice a' xs.length cap'), (6, .int .i64 (s : Int))])
    (fun s w' => s ≤ xs.length ∧ Kp No w1 w') (fun s => xs.length - s) 0 ⟨rfl, rfl, rfl, rfl, trivial⟩
    ⟨by omega, Kp.refl _ _⟩ ?_
  rintro i w2 junk ⟨hi, K⟩ again
  by_cases hlt : i < xs.length
  · have hll : i < (ents xs).length := by simpa using hlt
    obtain ⟨b2, sp2, rfl, hKB, hKS⟩ := own_at hK (by omega)
    obtain ⟨b, sp, rfl, hE⟩ := own_ref hO (by rw [ents_length]; omega)
    have kd := Kp.drew (S := No) (w := w2)
    have k3 := (k1.trans K).trans kd
    have hSeg := idCells_seg hlt hids hKS
    rw [Nat.zero_add] at hSeg
    have he : (ents xs)[i].id = (xs[i]).e.id := by simp [ents]
    have hb2 : b2 < w1.heap.size := hKB.lt
    let S : World → Prop := fun w' => RingAt w' r bo xs D ∧ RefAt w' q (ents xs) D2 ∧ Seg w' b2 (i * 16) (ints .u8 (bs8 (xs[i]).e.id)) ∧ b2 < w'.heap.size ∧ Blk w' q 83 (0, 0) [.slice (some ⟨b, 0, none⟩) xs.length cap] ∧ Blk w' b 166 (0, 0) (refC (ents xs) ++ sp)
    have hS : S w2.drew := ⟨hR.kpn k3, hQ.kpn k3, hSeg.kp (K.trans kd) (fun h => h) hb2, Nat.lt_of_lt_of_le hb2 (K.trans kd).size, hB.kp k3 fun h => h, hE.kp k3 fun h => h⟩
    have toSl : ∀ {w'}, S w' → SlE w' .u8 (some ⟨b2, i * 16, none⟩) 16 16 (bs8 (xs[i]).e.id) (fun _ => True) := fun h => by
      have := hids _ (List.getElem_mem hlt)
      exact ⟨by simp [this], Nat.le_refl _, by omega, .inr ⟨b2, i * 16, rfl, h.2.2.2.1, trivial, h.2.2.1⟩⟩
    (refine At_seq ?_; refine At_seq ?_; refine At_region ?_; refine s_mv ?_; refine s_mv ?_; refine s_ln ?_; refine s_lss ?_; refine AtR_nil ?_; refine At_cond_t rfl ?_; refine At_skip ?_; refine At_seq ?_; refine At_block ?_; refine At_seq ?_)
    refine At_draw S rfl ?_
    (apply AtH_take 0 rfl (by decide +kernel) (by exact rfl); (focus (intro wx hx; skip; exact x_move (by conv => lhs; whnf))); (focus (exact hS)))
    (apply AtH_take 1 rfl (by decide +kernel) (by exact rfl); (focus (intro wx hx; skip; exact x_move (by conv => lhs; whnf))); (focus (exact hS)))
    (apply AtH_take 5 rfl (by decide +kernel) (by exact rfl); (focus (intro wx hx; skip; exact x_move (by conv => lhs; whnf))); (focus (exact hS)))
    (apply AtH_take 6 rfl (by decide +kernel) (by exact rfl); (focus (intro wx hx; skip; exact x_nilCheck rfl)); (focus (exact hS)))
    (apply AtH_take 7 rfl (by decide +kernel) (by exact rfl); (focus (intro wx hx; skip; exact x_fieldAddrN rfl (by first | exact Nat.zero_add _ | exact Nat.add_zero _ | (simp only [Nat.reduceAdd] <;> rfl) | exact rfl))); (focus (exact hS)))
    (apply AtH_take 9 rfl (by decide +kernel) (by exact rfl); (focus (intro wx hx; skip; exact x_move (by conv => lhs; whnf))); (focus (exact hS)))
    -- ready now: 2 indexAddr 65 t23 t24, 8 load 81 t30
    refine AtH_take 2 rfl (by decide +kernel) rfl (fun wx hx => x_indexAddrM rfl rfl hlt) hS ?_
    refine AtH_take 3 rfl (by decide +kernel) rfl (fun wx hx => x_slice_arr rfl) hS ?_
    refine AtH_take 4 rfl (by decide +kernel) rfl (fun wx hx => x_conv_bs rfl (toSl hx)) hS ?_
    refine AtH_take 8 rfl (by decide +kernel) rfl (fun wx hx => x_load1 rfl hx.2.2.2.2.1 rfl) hS ?_
    -- ready now: 10 indexAddr 81 t31 t32
    refine AtH_take 10 rfl (by decide +kernel) rfl (fun wx hx => x_indexAddr3 rfl rfl hlt) hS ?_
    refine AtH_take 11 rfl (by decide +kernel) rfl (fun wx hx => x_fieldAddrN rfl rfl) hS ?_
    refine AtH_take 12 rfl (by decide +kernel) rfl (fun wx hx => x_load1 rfl hx.2.2.2.2.2 (refC_get (o := 0) sp hll (by omega))) hS ?_
    refine AtH_bool 13 rfl (by decide +kernel) rfl (fun wx hx => x_neq_str rfl rfl) (decide_eq_false fun h => h he.symm) hS ?_
    (apply AtH_take 14 rfl (by decide +kernel) (by exact rfl); (focus (intro wx hx; skip; exact x_move (by conv => lhs; whnf))); (focus (exact hS)))
    (apply AtH_take 15 rfl (by decide +kernel) (by exact ⟨_, _, rfl, by decide, rfl, rfl⟩); (focus (intro wx hx; skip; exact x_move (by conv => lhs; whnf))); (focus (exact hS)))
    (apply AtH_take 16 rfl (by decide +kernel) (by exact ⟨_, _, rfl, by decide, rfl, rfl⟩); (focus (intro wx hx; skip; exact x_move (by conv => lhs; whnf))); (focus (exact hS)))
    (apply AtH_take 17 rfl (by decide +kernel) (by exact ⟨_, _, rfl, by decide, rfl, rfl⟩); (focus (intro wx hx; skip; exact x_move (by conv => lhs; whnf))); (focus (exact hS)))
    (apply AtH_take 21 rfl (by decide +kernel) (by exact ⟨_, _, rfl, by decide, rfl, rfl⟩); (focus (intro wx hx; skip; exact x_move (by conv => lhs; whnf))); (focus (exact hS)))
    (apply AtH_take 22 rfl (by decide +kernel) (by exact ⟨_, _, rfl, by decide, rfl, rfl⟩); (focus (intro wx hx; skip; exact x_move (by conv => lhs; whnf))); (focus (exact hS)))
    (apply AtH_take 23 rfl (by decide +kernel) (by exact ⟨_, _, rfl, by decide, rfl, rfl⟩); (focus (intro wx hx; skip; exact x_nilCheck rfl)); (focus (exact hS)))
    (apply AtH_take 24 rfl (by decide +kernel) (by exact ⟨_, _, rfl, by decide, rfl, rfl⟩); (focus (intro wx hx; skip; exact x_fieldAddrN rfl (by first | exact Nat.zero_add _ | exact Nat.add_zero _ | (simp only [Nat.reduceAdd] <;> rfl) | exact rfl))); (focus (exact hS)))
    (apply AtH_take 26 rfl (by decide +kernel) (by exact ⟨_, _, rfl, by decide, rfl, rfl⟩); (focus (intro wx hx; skip; exact x_move (by conv => lhs; whnf))); (focus (exact hS)))
    -- ready now: 18 indexAddr 65 t39 t40, 25 load 81 t47
    refine AtH_take 18 rfl (by decide +kernel) (by exact ⟨_, _, rfl, by decide, rfl, rfl⟩) (fun wx hx => x_indexAddrM rfl rfl hlt) hS ?_
    refine AtH_take 19 rfl (by decide +kernel) (by exact ⟨_, _, rfl, by decide, rfl, rfl⟩) (fun wx hx => x_load_segN rfl hx.2.2.1 (by simp [hids _ (List.getElem_mem hlt)])) hS ?_
    refine AtH_take 25 rfl (by decide +kernel) (by exact ⟨_, _, rfl, by decide, rfl, rfl⟩) (fun wx hx => x_load1 rfl hx.2.2.2.2.1 rfl) hS ?_
    -- ready now: 20 call f38(t38, t42), 27 indexAddr 81 t48 t49
    refine AtH_take 27 rfl (by decide +kernel) (by exact ⟨_, _, rfl, by decide, rfl, rfl⟩) (fun wx hx => x_indexAddr3 rfl rfl hlt) hS ?_
    refine AtH_take 28 rfl (by decide +kernel) (by exact ⟨_, _, rfl, by decide, rfl, rfl⟩) (fun wx hx => x_fieldAddrN rfl rfl) hS ?_
    refine AtH_take 29 rfl (by decide +kernel) (by exact ⟨_, _, rfl, by decide, rfl, rfl⟩) (fun wx hx => x_load1 rfl hx.2.2.2.2.2 (refC_get (o := 0) sp hll (by omega))) hS ?_
    refine AtH_call 20 rfl (by decide +kernel) (by exact ⟨_, _, rfl, by decide, rfl, rfl⟩) x_call  (status_calls xs (xs[i]).e.id r bo _ hS.1 hg.sorted (hids _ (List.getElem_mem hlt))) ?_
    rintro _ w4 ⟨rfl, k4⟩
    have hS4 : S w4 := ⟨hS.1.kpn k4, hS.2.1.kpn k4, hS.2.2.1.kp k4 (fun h => h) hS.2.2.2.1, Nat.lt_of_lt_of_le hS.2.2.2.1 k4.size, hS.2.2.2.2.1.kp k4 fun h => h, hS.2.2.2.2.2.kp k4 fun h => h⟩
    refine ⟨_, rfl, hS4, ?_⟩
    clear hS
    have hS := hS4
    rw [← he]
    refine AtH_call 30 rfl (by decide +kernel) (by exact ⟨_, _, rfl, by decide, rfl, rfl⟩) x_call  (statusR_calls (ents xs) ((ents xs)[i]).id q _ hS.2.1 hg) ?_
    rintro _ w5 ⟨rfl, rfl⟩
    refine ⟨_, rfl, hS, ?_⟩
    (apply AtH_bool 31 rfl (by decide +kernel) (by exact ⟨_, _, rfl, by decide, rfl, rfl⟩); (focus (intro wx hx; skip; exact x_neq rfl rfl)); (focus (exact decide_eq_false (by omega))); (focus (exact hS)))
    (apply AtH_take 32 rfl (by decide +kernel) (by exact rfl); (focus (intro wx hx; skip; exact x_pick_f rfl (by conv => lhs; whnf))); (focus (exact hS)))
    refine AtH_done (by decide +kernel) ?_
    (refine At_cond_f rfl ?_; refine At_skip ?_; refine At_inBlock ?_; refine At_region ?_; refine s_mv ?_; refine s_ad ?_; refine s_as ?_; refine AtR_nil ?_)
    exact again (i + 1) _ _ ⟨rfl, rfl, rfl, rfl, trivial⟩ ⟨hlt, (K.trans kd).trans k4⟩ (by omega)
  have hie : i = xs.length := by omega
  subst hie
  clear again
  (refine At_seq ?_; refine At_seq ?_; refine At_region ?_; refine s_mv ?_; refine s_mv ?_; refine s_ln ?_; refine s_lss ?_; refine AtR_nil ?_; refine At_cond_f rfl ?_; refine At_exit rfl ?_; refine At_seq ?_; refine At_region ?_; refine s_as ?_; refine AtR_nil ?_)
  refine At_ret1 Tryd.func47 rfl (by conv => lhs; whnf) ?_
  exact ⟨rfl, k1.trans K⟩
end Go.Proofs.YtfngacepjcdlnaaDoor
