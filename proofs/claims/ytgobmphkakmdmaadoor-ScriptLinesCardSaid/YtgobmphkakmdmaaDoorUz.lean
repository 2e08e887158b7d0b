/- ScriptLines: the walk. -/
import Derived.Test.YtgobmphkakmdmaaDoorUy
import Derived.Test.YtgobmphkakmdmaaDoorUo
set_option linter.unusedVariables false
--@def LAW := 4
namespace Go.Proofs.YtgobmphkakmdmaaDoor
open Go Go.Kx Go.Sc
theorem count_snoc {l : List UInt8} {i : Nat} (h : i < l.length) : (l.take (i + 1)).count 32 = (l.take i).count 32 + (if l.getD i 0 = 32 then 1 else 0) := by
  have e : l.getD i 0 = l[i] := by simp [List.getD, h]
  rw [e, List.take_succ_eq_append_getElem h, List.count_append, List.count_singleton]
  by_cases hc : l[i] = 32 <;> simp [hc]
set_option maxRecDepth 100000 in
set_option maxHeartbeats 4000000 in
theorem lines_calls (a b : DeedC) (w : World) {D D' : Nat → Prop} (ha : DOk w a D) (hb : DOk w b D') (hL : Lad w) :
    Calls Tryd.prog 4 #[.agg (dC a).toArray, .agg (dC b).toArray] w fun e w' => e = .returned (.bool true) ∧ Kp No w w' := by
  refine calls_at (n := 113) Tryd.func4 rfl rfl (by simp) ?_
  have hka := ha.kind
  have hkb := hb.kind
  unfold in64 at hka hkb
  (refine At_seq ?_; refine At_region ?_)
  refine AtR_go rfl (G_val (r_box rfl) ?_)
  rintro _ w1 ⟨b2, rfl, hb2, e1⟩
  have k1 : Kp No w w1 := e1.kp (.inr (by omega))
  have B2 : Blk w1 b2 32 (0, 0) (dC a) := e1.blk
  clear e1
  refine AtR_go rfl (G_val (r_box rfl) ?_)
  rintro _ w2 ⟨b3, rfl, hb3, e2⟩
  have k2 : Kp No w1 w2 := e2.kp (.inr (by omega))
  have B3 : Blk w2 b3 32 (0, 0) (dC b) := e2.blk
  clear e2
  replace B2 := B2.kp k2 fun h => h
  have K2 := k1.trans k2
  clear k1 k2
  (refine s_as ?_; refine AtR_nil ?_; refine At_seq ?_; refine At_seq ?_; refine At_region ?_)
  refine s_call x_call (awake_calls _ (hL.kpn K2)) ?_
  rintro _ w3 ⟨rfl, k3⟩
  refine ⟨_, rfl, ?_⟩
  replace B2 := B2.kp k3 fun h => h
  replace B3 := B3.kp k3 fun h => h
  have K3 := K2.trans k3
  clear K2 k3
  (refine s_nt ?_; refine s_mv ?_)
  refine s_yes rfl rfl rfl rfl ?_
  refine g_val (x_load_all rfl B2 rfl) ?_
  refine s_yes rfl rfl rfl rfl ?_
  refine g_val (x_load_all rfl B3 rfl) ?_
  refine s_yes rfl rfl rfl rfl ?_
  refine G_val (r_buildSliceA2 (s := 8) rfl rfl rfl rfl rfl) ?_
  rintro _ w4 ⟨b4, rfl, hb4, e4⟩
  have k4 : Kp No w3 w4 := e4.kp (.inr (by omega))
  have B4 : Blk w4 b4 32 (0, 0) (dC a ++ dC b) := e4.blk
  clear e4
  replace B2 := B2.kp k4 fun h => h
  replace B3 := B3.kp k4 fun h => h
  have K4 := K3.trans k4
  clear K3 k4
  have O4 : Own w4 32 8 (some ⟨b4, 0, none⟩) 2 2 ([a, b].flatMap dC) := ⟨rfl, Nat.le_refl _, by decide, .inr ⟨b4, [], rfl, by simpa using B4, by simp [dC]⟩⟩
  have S4 : SlD w4 (some ⟨b4, 0, none⟩) 2 2 [a, b] (fun _ => True) := own_sld O4 rfl fun x hx => by
    rcases List.mem_cons.1 hx with rfl | hx
    · exact (ha.kpn K4).all
    · rw [List.mem_singleton.1 hx]; exact (hb.kpn K4).all
  refine s_yes rfl rfl rfl rfl ?_
  refine g_call x_call (small_calls [a, b] _ 2 _ S4) ?_
  rintro _ _ ⟨rfl, rfl⟩
  refine ⟨_, rfl, ?_⟩
  clear O4 S4 B4
  have hL4 := hL.kpn K4
  cases hsm : smL [a, b] with
  | false =>
    (refine s_yes rfl rfl rfl rfl ?_; refine g_nt ?_; refine s_pf ?_; refine s_mv ?_; refine s_no rfl rfl rfl rfl ?_; refine s_no rfl rfl rfl rfl ?_; refine s_no rfl rfl rfl rfl ?_; refine s_pt ?_; refine s_mv ?_; refine s_no rfl rfl rfl rfl ?_; refine s_no rfl rfl rfl rfl ?_; refine s_no rfl rfl rfl rfl ?_; refine s_pt ?_; refine s_mv ?_; refine s_no rfl rfl rfl rfl ?_; refine s_no rfl rfl rfl rfl ?_; refine s_no rfl rfl rfl rfl ?_; refine s_pt ?_; refine s_mv ?_; refine s_no rfl rfl rfl rfl ?_; refine s_no rfl rfl rfl rfl ?_; refine s_no rfl rfl rfl rfl ?_; refine s_pt ?_; refine AtR_nil ?_; refine At_cond_t rfl ?_; refine At_seq ?_; refine At_region ?_)
    refine s_call x_call (awake_calls _ hL4) ?_
    rintro _ w5 ⟨rfl, k5⟩
    refine ⟨_, rfl, ?_⟩
    (refine s_as ?_; refine AtR_nil ?_)
    refine At_ret1 Tryd.func4 rfl (by conv => lhs; whnf) ?_
    exact ⟨rfl, K4.trans k5⟩
  | true =>
  obtain ⟨_, hsm⟩ := smL_t hsm
  have sa := (hsm a (List.mem_cons_self ..)).sm
  have sb := (hsm b (List.mem_cons_of_mem _ (List.mem_cons_self ..))).sm
  have hor : (a.kind < 0 ∨ (0 ≤ a.kind ∧ 25 < a.kind) ∨ (0 ≤ a.kind ∧ a.kind ≤ 25 ∧ b.kind < 0) ∨ (0 ≤ a.kind ∧ a.kind ≤ 25 ∧ 0 ≤ b.kind ∧ 25 < b.kind)) ∨ (0 ≤ a.kind ∧ a.kind ≤ 25 ∧ 0 ≤ b.kind ∧ b.kind ≤ 25) := by omega
  rcases hor with hor | ⟨ka1, ka2, kb1, kb2⟩
  · rcases hor with h1 | ⟨h1, h2⟩ | ⟨h1, h2, h3⟩ | ⟨h1, h2, h3, h4⟩
    all_goals
      repeat (first | refine AtR_nil ?_ | refine s_mv ?_ | refine s_as ?_ | refine s_pt ?_ | refine s_pf ?_ | refine s_nt ?_ | refine s_ex ?_ | refine s_nc ?_ | refine s_fa ?_ | refine s_ia ?_ | refine s_lns ?_ | refine s_xw ?_ | refine s_aw ?_ | refine s_ow ?_ | refine s_dw ?_ | refine s_hl ?_ | refine s_hr ?_ | refine s_bw ?_ | refine s_wb ?_ | refine s_ng ?_ | refine s_ldw ?_ | refine s_iaa ?_ | refine s_qu ?_ | refine s_rm ?_ | refine s_ml ?_ | refine s_cp ?_ | refine s_ld ?_ | refine s_sl ?_ | refine s_ad ?_ | refine s_sb ?_ | refine s_ln ?_ | refine s_cv ?_ | refine s_lss ?_ | refine s_leq ?_ | refine s_gtr ?_ | refine s_geq ?_ | refine s_eql ?_ | refine s_neq ?_ | refine s_eqlf ?_ | refine s_eqlp ?_ | refine s_eqln ?_ | refine s_neqf ?_ | refine s_neqp ?_ | refine s_neqn ?_ | refine At_seq ?_ | refine At_region ?_ | refine AtR_nil ?_ | refine At_block ?_ | refine At_inBlock ?_ | refine At_skip ?_ | refine At_cond_t rfl ?_ | refine At_cond_f rfl ?_ | refine At_exit rfl ?_ | refine s_no rfl rfl rfl rfl ?_ | refine s_nou rfl rfl rfl ?_ | (refine s_yes rfl rfl rfl rfl ?_; first | refine g_mv ?_ | refine g_as ?_ | refine g_pt ?_ | refine g_pf ?_ | refine g_nt ?_ | refine g_ex ?_ | refine g_nc ?_ | refine g_fa ?_ | refine g_ld ?_ | refine g_ia ?_ | refine g_sl ?_ | refine g_ad ?_ | refine g_sb ?_ | refine g_ln ?_ | refine g_cv ?_ | refine g_lss ?_ | refine g_leq ?_ | refine g_gtr ?_ | refine g_geq ?_ | refine g_eql ?_ | refine g_neq ?_ | refine g_eqlf ?_ | refine g_eqlp ?_ | refine g_eqln ?_ | refine g_neqf ?_ | refine g_neqp ?_ | refine g_neqn ?_))
      refine s_call x_call (awake_calls _ hL4) ?_
      rintro _ w5 ⟨rfl, k5⟩
      refine ⟨_, rfl, ?_⟩
      repeat (first | refine AtR_nil ?_ | refine s_mv ?_ | refine s_as ?_ | refine s_pt ?_ | refine s_pf ?_ | refine s_nt ?_ | refine s_ex ?_ | refine s_nc ?_ | refine s_fa ?_ | refine s_ia ?_ | refine s_lns ?_ | refine s_xw ?_ | refine s_aw ?_ | refine s_ow ?_ | refine s_dw ?_ | refine s_hl ?_ | refine s_hr ?_ | refine s_bw ?_ | refine s_wb ?_ | refine s_ng ?_ | refine s_ldw ?_ | refine s_iaa ?_ | refine s_qu ?_ | refine s_rm ?_ | refine s_ml ?_ | refine s_cp ?_ | refine s_ld ?_ | refine s_sl ?_ | refine s_ad ?_ | refine s_sb ?_ | refine s_ln ?_ | refine s_cv ?_ | refine s_lss ?_ | refine s_leq ?_ | refine s_gtr ?_ | refine s_geq ?_ | refine s_eql ?_ | refine s_neq ?_ | refine s_eqlf ?_ | refine s_eqlp ?_ | refine s_eqln ?_ | refine s_neqf ?_ | refine s_neqp ?_ | refine s_neqn ?_ | refine At_seq ?_ | refine At_region ?_ | refine AtR_nil ?_ | refine At_block ?_ | refine At_inBlock ?_ | refine At_skip ?_ | refine At_cond_t rfl ?_ | refine At_cond_f rfl ?_ | refine At_exit rfl ?_ | refine s_no rfl rfl rfl rfl ?_ | refine s_nou rfl rfl rfl ?_ | (refine s_yes rfl rfl rfl rfl ?_; first | refine g_mv ?_ | refine g_as ?_ | refine g_pt ?_ | refine g_pf ?_ | refine g_nt ?_ | refine g_ex ?_ | refine g_nc ?_ | refine g_fa ?_ | refine g_ld ?_ | refine g_ia ?_ | refine g_sl ?_ | refine g_ad ?_ | refine g_sb ?_ | refine g_ln ?_ | refine g_cv ?_ | refine g_lss ?_ | refine g_leq ?_ | refine g_gtr ?_ | refine g_geq ?_ | refine g_eql ?_ | refine g_neq ?_ | refine g_eqlf ?_ | refine g_eqlp ?_ | refine g_eqln ?_ | refine g_neqf ?_ | refine g_neqp ?_ | refine g_neqn ?_))
      refine At_ret1 Tryd.func4 rfl (by conv => lhs; whnf) ?_
      exact ⟨rfl, K4.trans k5⟩
  (refine s_yes rfl rfl rfl rfl ?_; refine g_nt ?_; refine s_pf ?_; refine s_mv ?_; refine s_yes rfl rfl rfl rfl ?_; refine g_fa ?_; refine s_yes rfl rfl rfl rfl ?_; refine g_ld ?_; refine s_yes rfl rfl rfl rfl ?_; refine g_lss ?_; refine s_pf ?_; refine s_mv ?_; refine s_yes rfl rfl rfl rfl ?_; refine g_fa ?_; refine s_yes rfl rfl rfl rfl ?_; refine g_ld ?_; refine s_yes rfl rfl rfl rfl ?_; refine g_gtr ?_; refine s_pf ?_; refine s_mv ?_; refine s_yes rfl rfl rfl rfl ?_; refine g_fa ?_; refine s_yes rfl rfl rfl rfl ?_; refine g_ld ?_; refine s_yes rfl rfl rfl rfl ?_; refine g_lss ?_; refine s_pf ?_; refine s_mv ?_; refine s_yes rfl rfl rfl rfl ?_; refine g_fa ?_; refine s_yes rfl rfl rfl rfl ?_; refine g_ld ?_; refine s_yes rfl rfl rfl rfl ?_; refine g_gtr ?_; refine s_pf ?_; refine AtR_nil ?_; refine At_cond_f rfl ?_; refine At_skip ?_; refine At_seq ?_)
  have kd := Kp.drew (S := No) (w := w4)
  let S : World → Prop := fun w' => Blk w' b2 32 (0, 0) (dC a) ∧ Blk w' b3 32 (0, 0) (dC b)
  have hS : S w4.drew := ⟨B2.kp kd fun h => h, B3.kp kd fun h => h⟩
  refine At_draw S rfl ?_
  refine AtH_take 0 rfl (by decide +kernel) (by exact rfl) (fun wx hx => x_load_all rfl hx.1 rfl) hS ?_
  refine AtH_take 2 rfl (by decide +kernel) (by exact rfl) (fun wx hx => x_load_all rfl hx.2 rfl) hS ?_
  have K4d : Kp No w4 w4.drew := kd
  refine AtH_any (T := [1, 3, 4, 5]) (L1 := [0, 2, 1, 3, 4, 5].foldl (fun l x => l.setIfInBounds x true) (Array.replicate 8 false)) (fun D => Reg a b b2 b3 w4 D) (fun D env w h => ⟨h.B2, h.B3⟩) ?_ ?_ 4 _ [] _ _ (by decide +kernel) ⟨rfl, rfl, rfl, rfl, hS.1, hS.2, kd, (fun h => by cases h), (fun h => by cases h), (fun h => by cases h), (fun h => by cases h), (fun h => by cases h)⟩
  · intro i hi D
    have hcase : i = 1 ∨ i = 3 ∨ i = 4 ∨ i = 5 := by simpa using hi
    rcases hcase with rfl | rfl | rfl | rfl
    · refine Doth.call rfl (fun _ _ _ => rfl) fun env w5 h => ⟨8, #[.agg (dC a).toArray], _, ?_, only_calls a w5 ⟨ka1, by omega⟩, ?_⟩
      · have e44 : ev 113 env (.tmp 44) = .agg (dC a).toArray := ev_tmp (by decide) h.e44
        have hx := fun (dst : Option Tmp) ty pos aft g ts => x_call (P := Tryd.prog) (n := 113) (env := env) (w := w5) (dst := dst) (ty := ty) (pos := pos) (aft := aft) (g := g) (xs := [.tmp 44]) (ts := ts) (gf := 8)
        simp only [List.map_cons, List.map_nil, e44] at hx
        exact hx _ _ _ _ _ _
      · rintro _ w6 ⟨rfl, k6⟩
        exact ⟨_, rfl, h.one k6⟩
    · refine Doth.call rfl (fun _ _ _ => rfl) fun env w5 h => ⟨8, #[.agg (dC b).toArray], _, ?_, only_calls b w5 ⟨kb1, by omega⟩, ?_⟩
      · have e46 : ev 113 env (.tmp 46) = .agg (dC b).toArray := ev_tmp (by decide) h.e46
        have hx := fun (dst : Option Tmp) ty pos aft g ts => x_call (P := Tryd.prog) (n := 113) (env := env) (w := w5) (dst := dst) (ty := ty) (pos := pos) (aft := aft) (g := g) (xs := [.tmp 46]) (ts := ts) (gf := 8)
        simp only [List.map_cons, List.map_nil, e46] at hx
        exact hx _ _ _ _ _ _
      · rintro _ w6 ⟨rfl, k6⟩
        exact ⟨_, rfl, h.three k6⟩
    · refine Doth.val rfl (fun _ _ _ => rfl) fun env w5 h => ?_
      obtain ⟨v, w6, hr, p, rfl, hp, e⟩ := r_alloc (P := Tryd.prog) (n := 113) (env := env) (w := w5) (T := 32) (dst := some 5)
      exact ⟨_, w6, hr, h.four (e.kp (.inr (by omega))) hp e.blk⟩
    · refine Doth.val rfl (fun _ _ _ => rfl) fun env w5 h => ?_
      obtain ⟨v, w6, hr, p, rfl, hp, e⟩ := r_alloc (P := Tryd.prog) (n := 113) (env := env) (w := w5) (T := 32) (dst := some 6)
      exact ⟨_, w6, hr, h.five (e.kp (.inr (by omega))) hp e.blk⟩
  intro T5 env5 w5 hD h
  obtain ⟨p5, e5, hp5, B5⟩ := h.a4 (hD 4 (by simp))
  obtain ⟨p6, e6, hp6, B6⟩ := h.a5 (hD 5 (by simp))
  have hne : p5 ≠ p6 := fun e => h.ne (hD 4 (by simp)) (hD 5 (by simp)) (by rw [e5, e6, e])
  have c1 := h.c1 (hD 1 (by simp))
  have c3 := h.c3 (hD 3 (by simp))
  have l2 := B2.lt
  have l3 := B3.lt
  refine H_skip 6 rfl (by decide +kernel) (by exact rfl) (r_store_all (s := 8) (vs := dC (onlyD a)) (ev_tmp (by decide) e5) (ev_tmp (by decide) c1) B5 rfl rfl rfl) ?_
  intro w6 x6
  have k6 : Kp (fun j => j = p5) w5 w6 := x6.kp (.inl rfl)
  refine ⟨⟨h.B2.kp k6 (by omega), h.B3.kp k6 (by omega)⟩, ?_⟩
  refine H_skip 7 rfl (by decide +kernel) (by exact rfl) (r_store_all (s := 8) (vs := dC (onlyD b)) (ev_tmp (by decide) e6) (ev_tmp (by decide) c3) (B6.kp k6 fun h => hne h.symm) rfl rfl rfl) ?_
  intro w7 x7
  have k7 : Kp (fun j => j = p6) w6 w7 := x7.kp (.inl rfl)
  have B2' := (h.B2.kp k6 (by omega)).kp k7 (by omega)
  have B3' := (h.B3.kp k6 (by omega)).kp k7 (by omega)
  have B5' : Blk w7 p5 32 (0, 0) (dC (onlyD a)) := Blk.kp x6.blk k7 hne
  have B6' : Blk w7 p6 32 (0, 0) (dC (onlyD b)) := x7.blk
  have K7 : Kp No w w7 := K4.trans ((h.K.trans' k6 (by rintro j rfl; right; omega)).trans' k7 (by rintro j rfl; right; omega))
  have he2 := h.e2
  have he3 := h.e3
  refine ⟨⟨B2', B3'⟩, ?_⟩
  refine AtH_done (by decide +kernel) ?_
  have hlive : Live env5 [(2, .pointer (some ⟨b2, 0, none⟩)), (5, .pointer (some ⟨p5, 0, none⟩)), (6, .pointer (some ⟨p6, 0, none⟩))] := ⟨he2, e5, e6, trivial⟩
  obtain ⟨junk, hj⟩ : ∃ junk, env5 = upds junk [(2, .pointer (some ⟨b2, 0, none⟩)), (5, .pointer (some ⟨p5, 0, none⟩)), (6, .pointer (some ⟨p6, 0, none⟩))] := ⟨env5, env_as _ _ hlive⟩
  have z7 := K7.size
  clear hlive he2 he3 e5 e6 c1 c3 h hD x6 x7 k6 k7 B5 B6
  subst hj
  have hoa := onlyP_ok (ha.kpn K7) (flds a.kind.toNat)
  have hob := onlyP_ok (hb.kpn K7) (flds b.kind.toNat)
  have hsa := onlyP_sm sa (flds a.kind.toNat)
  have hsb := onlyP_sm sb (flds b.kind.toNat)
  change DOk w7 (onlyD a) D at hoa
  change DOk w7 (onlyD b) D' at hob
  change DSm (onlyD a) at hsa
  change DSm (onlyD b) at hsb
  have hL7 := hL.kpn K7
  (refine At_seq ?_; refine At_region ?_)
  refine s_val (x_load_all rfl B5' rfl) ?_
  refine AtR_go rfl (G_val (r_buildSliceA (s := 8) rfl rfl rfl) ?_)
  rintro _ w8 ⟨b8, rfl, hb8, e8⟩
  have k8 : Kp No w7 w8 := e8.kp (.inr (by omega))
  have B8 : Blk w8 b8 32 (0, 0) (dC (onlyD a)) := e8.blk
  clear e8
  refine s_call x_call (print_calls [onlyD a] _ 1 _ (sld_one B8 (hoa.kpn k8).all trivial) (fun x hx => by rw [List.mem_singleton.1 hx]; exact hsa) (by simp) (hL7.kpn k8)) ?_
  rintro _ w9 ⟨rfl, k9⟩
  refine ⟨_, rfl, ?_⟩
  have K9 := k8.trans k9
  clear k8 k9 B8
  (refine s_mv ?_; refine s_ex ?_; refine s_ex ?_; refine s_as ?_; refine s_as ?_; refine AtR_nil ?_; refine At_seq ?_; refine At_region ?_)
  refine s_val (x_load_all rfl (B6'.kp K9 fun h => h) rfl) ?_
  refine AtR_go rfl (G_val (r_buildSliceA (s := 8) rfl rfl rfl) ?_)
  rintro _ w10 ⟨b10, rfl, hb10, e10⟩
  have k10 : Kp No w9 w10 := e10.kp (.inr (by omega))
  have B10 : Blk w10 b10 32 (0, 0) (dC (onlyD b)) := e10.blk
  clear e10
  have K10 := K9.trans k10
  refine s_call x_call (print_calls [onlyD b] _ 1 _ (sld_one B10 (hob.kpn K10).all trivial) (fun x hx => by rw [List.mem_singleton.1 hx]; exact hsb) (by simp) (hL7.kpn K10)) ?_
  rintro _ w11 ⟨rfl, k11⟩
  refine ⟨_, rfl, ?_⟩
  have K11 := K10.trans k11
  clear k10 k11 B10 K10 K9
  have P1 := prn_one (x := onlyD a)
  have P2 := prn_one (x := onlyD b)
  have hiff := lines_iff a b ⟨ka1, by omega⟩ ⟨kb1, by omega⟩
  have hcnt := lineD_count (onlyD a).plain (by show a.kind.toNat < 26; omega)
  have hpre := line_pre (onlyD a).plain
  change (lineD (onlyD a).plain).count 32 = (flds a.kind.toNat).length at hcnt
  change ∃ r, lineD (onlyD a).plain = nameB a.kind.toNat ++ r at hpre
  generalize prn [onlyD a] = px at *
  generalize prn [onlyD b] = py at *
  obtain ⟨s, e⟩ := px
  obtain ⟨t, f⟩ := py
  simp only at P1 P2 ⊢
  by_cases he : e = 0
  rotate_left
  · have he2 : ¬ (e : Int) = 0 := by omega
    (refine s_mv ?_; refine s_ex ?_; refine s_ex ?_; refine s_as ?_; refine s_as ?_; refine AtR_nil ?_; refine At_seq ?_; refine At_seq ?_; refine At_region ?_; refine s_mv ?_; refine s_neq ?_; refine s_mv ?_; refine s_no rfl rfl rfl rfl ?_; refine s_no rfl rfl rfl rfl ?_; refine s_pt ?_; refine AtR_nil ?_; refine At_cond_t rfl ?_; refine At_seq ?_; refine At_region ?_; refine s_as ?_; refine AtR_nil ?_)
    refine At_ret1 Tryd.func4 rfl (by conv => lhs; whnf) ?_
    exact ⟨rfl, K7.trans K11⟩
  by_cases hf : f = 0
  rotate_left
  · have hf2 : ¬ (f : Int) = 0 := by omega
    subst he
    (refine s_mv ?_; refine s_ex ?_; refine s_ex ?_; refine s_as ?_; refine s_as ?_; refine AtR_nil ?_; refine At_seq ?_; refine At_seq ?_; refine At_region ?_; refine s_mv ?_; refine s_neq ?_; refine s_mv ?_; refine s_yes rfl rfl rfl rfl ?_; refine g_mv ?_; refine s_yes rfl rfl rfl rfl ?_; refine g_neq ?_; refine s_pf ?_; refine AtR_nil ?_; refine At_cond_t rfl ?_; refine At_seq ?_; refine At_region ?_; refine s_as ?_; refine AtR_nil ?_)
    refine At_ret1 Tryd.func4 rfl (by conv => lhs; whnf) ?_
    exact ⟨rfl, K7.trans K11⟩
  subst he
  subst hf
  obtain ⟨hs1, hs2⟩ := P1 rfl
  obtain ⟨ht1, ht2⟩ := P2 rfl
  clear P1 P2
  obtain ⟨k, hk⟩ := Int.eq_ofNat_of_zero_le ka1
  have hk26 : k < 26 := by omega
  have hkt : a.kind.toNat = k := by omega
  rw [hkt] at hcnt hpre
  have hsl : s.length ≤ 4097 := by rw [hs1, List.length_append]; simp only [List.length_singleton]; omega
  have hsc : s.count 32 = (flds k).length := by rw [hs1, List.count_append, hcnt]; simp
  obtain ⟨r, hr⟩ := hpre
  have hsp : s.take (nameB k).length = nameB k ∧ (nameB k).length < s.length := by
    rw [hs1, hr]
    refine ⟨by rw [List.append_assoc, List.take_left], by simp only [List.length_append, List.length_singleton]; omega⟩
  have hst : decide (s = t) = sameB (onlyD a) (onlyD b) := by
    rw [Bool.eq_iff_iff, decide_eq_true_eq, ← hiff, hs1, ht1]
    exact ⟨fun h => List.append_cancel_right h, fun h => by rw [h]⟩
  clear hs1 ht1 hr hcnt hs2 ht2 hiff
  (refine s_mv ?_; refine s_ex ?_; refine s_ex ?_; refine s_as ?_; refine s_as ?_; refine AtR_nil ?_; refine At_seq ?_; refine At_seq ?_; refine At_region ?_; refine s_mv ?_; refine s_neq ?_; refine s_mv ?_; refine s_yes rfl rfl rfl rfl ?_; refine g_mv ?_; refine s_yes rfl rfl rfl rfl ?_; refine g_neq ?_; refine s_pf ?_; refine AtR_nil ?_; refine At_cond_f rfl ?_; refine At_skip ?_; refine At_seq ?_; refine At_region ?_; refine s_as ?_; refine AtR_nil ?_; refine At_seq ?_; refine At_seq ?_; refine At_region ?_; refine s_as ?_; refine AtR_nil ?_; refine At_block ?_)
  refine At_while (fun i : Nat => [(2, .pointer (some ⟨b2, 0, none⟩)), (5, .pointer (some ⟨p5, 0, none⟩)), (6, .pointer (some ⟨p6, 0, none⟩)), (7, strV s), (9, strV t), (11, .int .i64 (((s.take i).count 32 : Nat) : Int)), (12, .int .i64 (i : Int))])
    (fun i w' => i ≤ s.length ∧ w11 = w') (fun i => s.length - i) 0 ⟨rfl, rfl, rfl, rfl, rfl, rfl, rfl, trivial⟩ ⟨by omega, rfl⟩ ?_
  rintro i w12 junk2 ⟨hi, rfl⟩ again
  by_cases hlt : i < s.length
  · have hsn := count_snoc hlt
    have hcl : (s.take i).count 32 ≤ i := by have := List.count_le_length (a := 32) (l := s.take i); simp at this; omega
    (refine At_seq ?_; refine At_seq ?_; refine At_region ?_; refine s_mv ?_; refine s_mv ?_; refine s_lns ?_; refine s_lss ?_; refine AtR_nil ?_; refine At_cond_t rfl ?_; refine At_skip ?_; refine At_seq ?_; refine At_block ?_; refine At_seq ?_; refine At_region ?_; refine s_mv ?_; refine s_mv ?_)
    refine s_val (x_index_str (i := i) rfl rfl hlt) ?_
    generalize s.getD i 0 = c at *
    by_cases hc : c = 32
    · have hc2 : ub c = 32 := by rw [hc]; rfl
      rw [if_pos hc] at hsn
      (refine s_eql ?_; refine AtR_nil ?_; refine At_cond_t rfl ?_; refine At_region ?_; refine s_mv ?_; refine s_ad ?_; refine s_as ?_; refine AtR_nil ?_; refine At_inBlock ?_; refine At_region ?_; refine s_mv ?_; refine s_ad ?_; refine s_as ?_; refine AtR_nil ?_)
      exact again (i + 1) _ _ ⟨rfl, rfl, rfl, rfl, rfl, by rw [hsn]; rfl, rfl, trivial⟩ ⟨hlt, rfl⟩ (by omega)
    · have hc2 : ¬ ub c = 32 := fun h => hc (by
        have : ub c = ub 32 := h
        exact ub_inj.1 this)
      rw [if_neg hc] at hsn
      (refine s_eql ?_; refine AtR_nil ?_; refine At_cond_f rfl ?_; refine At_skip ?_; refine At_inBlock ?_; refine At_region ?_; refine s_mv ?_; refine s_ad ?_; refine s_as ?_; refine AtR_nil ?_)
      exact again (i + 1) _ _ ⟨rfl, rfl, rfl, rfl, rfl, by rw [hsn]; rfl, rfl, trivial⟩ ⟨hlt, rfl⟩ (by omega)
  obtain rfl : i = s.length := by omega
  rw [List.take_length, hsc]
  clear again
  have B2e := B2'.kp K11 fun h => h
  have B5e := B5'.kp K11 fun h => h
  have B6e := B6'.kp K11 fun h => h
  (refine At_seq ?_; refine At_seq ?_; refine At_region ?_; refine s_mv ?_; refine s_mv ?_; refine s_lns ?_; refine s_lss ?_; refine AtR_nil ?_; refine At_cond_f rfl ?_; refine At_exit rfl ?_; refine At_seq ?_)
  have kd2 := Kp.drew (S := No) (w := w11)
  let S2 : World → Prop := fun w' => Blk w' b2 32 (0, 0) (dC a)
  clear hS
  have hS : S2 w11.drew := B2e.kp kd2 fun h => h
  refine At_draw S2 rfl ?_
  (apply AtH_take 1 rfl (by decide +kernel) (by exact rfl); (focus (intro wx hx; skip; exact x_fieldAddrN rfl (by first | exact Nat.zero_add _ | exact Nat.add_zero _ | (simp only [Nat.reduceAdd] <;> rfl) | exact rfl))); (focus (exact hS)))
  -- ready now: 0 call f9(), 2 load 3 t79
  refine AtH_take 2 rfl (by decide +kernel) (by exact rfl) (fun wx hx => x_load1 rfl hx rfl) hS ?_
  refine AtH_call 0 rfl (by decide +kernel) (by exact rfl) x_call  (namesR_calls _) ?_
  rintro _ w13 ⟨bn, rfl, Bn, hbn, k13⟩
  have hS3 : S2 w13 := Blk.kp hS k13 fun h => h
  refine ⟨_, rfl, hS3, ?_⟩
  clear hS
  have hS := hS3
  have hgn : (namesL.map strV)[k]? = some (strV (nameB k)) := strs_get (xs := namesL) (by have : namesL.length = 26 := rfl; omega)
  refine AtH_val 3 rfl (by decide +kernel) (by exact rfl) (x_indexAddr1 (i := a.kind) rfl rfl (by omega) (by omega)) hS ?_
  refine AtH_val 4 rfl (by decide +kernel) (by exact rfl) (x_load_seg (off := 0) (j := k) (by rw [hkt]; rfl) Bn.seg hgn) hS ?_
  (apply AtH_take 5 rfl (by decide +kernel) (by exact rfl); (focus (intro wx hx; skip; exact x_assign (by conv => lhs; whnf))); (focus (exact hS)))
  refine AtH_done (by decide +kernel) ?_
  have kd13 := kd2.trans k13
  have B5f := B5e.kp kd13 fun h => h
  have B6f := B6e.kp kd13 fun h => h
  have B2f : Blk w13 b2 32 (0, 0) (dC a) := hS3
  clear B5e B6e B2e hS hS3 Bn
  (refine At_seq ?_; refine At_region ?_; refine s_mv ?_; refine s_fa ?_; refine s_ld ?_)
  rw [hk]
  refine s_call x_call (has_calls k hk26 _) ?_
  rintro _ w14 ⟨a14, c14, rfl, O14, _, k14⟩
  refine ⟨_, rfl, ?_⟩
  have B5g := B5f.kp k14 fun h => h
  have B6g := B6f.kp k14 fun h => h
  have K14 := (K11.trans kd13).trans k14
  clear B5f B6f
  obtain ⟨hsp1, hsp2⟩ := hsp
  have hz1 : (⟨s.toArray⟩ : ByteArray).size = s.length := rfl
  have hz2 : (⟨(nameB k).toArray⟩ : ByteArray).size = (nameB k).length := rfl
  (refine s_ln ?_; refine s_eql ?_; refine s_mv ?_; refine s_yes rfl rfl rfl rfl ?_; refine g_mv ?_; refine s_yes rfl rfl rfl rfl ?_; refine g_ln ?_; refine s_yes rfl rfl rfl rfl ?_; refine g_mv ?_; refine s_yes rfl rfl rfl rfl ?_; refine g_ln ?_; refine s_yes rfl rfl rfl rfl ?_; refine g_gtr ?_; refine s_pt ?_; refine s_mv ?_; refine s_yes rfl rfl rfl rfl ?_; refine g_mv ?_; refine s_yes rfl rfl rfl rfl ?_; refine g_mv ?_; refine s_yes rfl rfl rfl rfl ?_; refine g_ln ?_)
  refine s_yes rfl rfl rfl rfl ?_
  refine g_val (x_slice_str_h (m := (nameB k).length) rfl rfl (Nat.le_of_lt hsp2)) ?_
  rw [hsp1]
  (refine s_yes rfl rfl rfl rfl ?_; refine g_mv ?_)
  refine s_yes rfl rfl rfl rfl ?_
  refine g_bool (x_eql_str rfl rfl) (decide_eq_true rfl) ?_
  (refine s_pt ?_; refine s_mv ?_; refine s_yes rfl rfl rfl rfl ?_; refine g_mv ?_; refine s_yes rfl rfl rfl rfl ?_; refine g_mv ?_)
  refine s_yes rfl rfl rfl rfl ?_
  refine g_val (x_eql_str rfl rfl) ?_
  refine s_yes rfl rfl rfl rfl ?_
  refine g_val (x_load_all rfl B5g rfl) ?_
  refine s_yes rfl rfl rfl rfl ?_
  refine g_val (x_load_all rfl B6g rfl) ?_
  refine s_yes rfl rfl rfl rfl ?_
  refine g_call x_call (same_calls (onlyD a) (onlyD b) _ (hoa.kpn K14) (hob.kpn K14) (by have := hsa.keep; omega)) ?_
  rintro _ w15 ⟨rfl, k15⟩
  refine ⟨_, rfl, ?_⟩
  rw [hst]
  generalize sameB (onlyD a) (onlyD b) = q
  refine s_yes rfl rfl rfl rfl ?_
  refine g_bool (bv := true) (x_eql_bool rfl rfl) (by cases q <;> rfl) ?_
  (refine s_pt ?_; refine s_as ?_; refine AtR_nil ?_)
  refine At_ret1 Tryd.func4 rfl (by conv => lhs; whnf) ?_
  exact ⟨rfl, K7.trans (K14.trans k15)⟩
end Go.Proofs.YtgobmphkakmdmaaDoor
