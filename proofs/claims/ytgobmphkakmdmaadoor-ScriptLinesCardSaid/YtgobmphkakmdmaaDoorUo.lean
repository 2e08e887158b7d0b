/- ScriptWhole: the walk. -/
import Derived.Test.YtgobmphkakmdmaaDoorUn
set_option linter.unusedVariables false
namespace Go.Proofs.YtgobmphkakmdmaaDoor
open Go Go.Kx Go.Sc
theorem flat_len (xs : List DeedC) : (xs.flatMap dC).length = xs.length * 8 := by
  induction xs with
  | nil => rfl
  | cons x xs ih => rw [List.flatMap_cons, List.length_append, ih, List.length_cons]; simp [dC]; omega
theorem flat_get : ∀ {xs : List DeedC} {i o : Nat}, i < xs.length → o < 8 → (xs.flatMap dC)[i * 8 + o]? = (dC (xs.getD i default))[o]?
  | [], i, o, h, _ => by simp at h
  | x :: xs, 0, o, _, ho => by
    rw [List.flatMap_cons, Nat.zero_mul, Nat.zero_add, List.getElem?_append_left (by simpa [dC] using ho)]
    rfl
  | x :: xs, i + 1, o, h, ho => by
    have ih := flat_get (xs := xs) (i := i) (o := o) (by simpa using h) ho
    rw [List.flatMap_cons, List.getElem?_append_right (by simp [dC]; omega)]
    have e : (i + 1) * 8 + o - (dC x).length = i * 8 + o := by simp [dC]; omega
    rw [e, ih]
    rfl
theorem SlD.src {w : World} {a : Option Addr} {len cap : Nat} {xs : List DeedC} {D : Nat → Prop} (h : SlD w a len cap xs D) : Src Tryd.prog 8 22 (.slice a len cap) len (xs.flatMap dC) w := by
  have hl := h.len_eq
  have hT : Tryd.prog.underlying 22 = some (.slice 32) := Tryd.underlying22
  have one : ∀ u ∈ xs.flatMap dC, u.oneCell' = true := fun u hu => by
    obtain ⟨x, _, hx⟩ := List.mem_flatMap.1 hu
    have : (dC x).all (·.oneCell') = true := rfl
    exact List.all_eq_true.1 this u hx
  by_cases h0 : len = 0
  · subst h0
    have : xs = [] := List.eq_nil_of_length_eq_zero hl
    subst this
    cases a with
    | none => exact Src.ofNil w hT cap
    | some a => exact Src.ofSlice w hT a 0 cap [] (by simp) (fun j u hj => by simp at hj) (fun u hu => by cases hu)
  rcases h.mem with hc | ⟨b, off, rfl, hlt, _, hs⟩
  · have := h.le; omega
  refine Src.ofSlice w hT ⟨b, off, none⟩ len cap (xs.flatMap dC) (by rw [flat_len, hl]) (fun j u hj => ?_) one
  have hj2 : j < xs.length * 8 := by rw [← flat_len]; exact (List.getElem?_eq_some_iff.1 hj).1
  have hq : j / 8 < xs.length := by omega
  have hr : j % 8 < 8 := Nat.mod_lt _ (by omega)
  have e : j = j / 8 * 8 + j % 8 := by omega
  have h1 := hs (j / 8) (by omega) (j % 8) (by simpa [dC] using hr)
  rw [add_none, show off + j = off + j / 8 * 8 + j % 8 by omega, h1, ← flat_get hq hr, ← e, hj]
theorem own_sld {w : World} {a : Option Addr} {m cap : Nat} {xs : List DeedC} (ho : Own w 32 8 a m cap (xs.flatMap dC)) (hm : xs.length = m) (hin : ∀ x ∈ xs, DOk w x (fun _ => True)) : SlD w a m cap xs (fun _ => True) := by
  refine ⟨hm, ho.2.1, by have := ho.2.2.1; simpa [maxLen] using this, ?_, hin⟩
  by_cases h0 : m = 0
  · rcases ho.2.2.2 with ⟨_, hc⟩ | ⟨b, sp, rfl, hB, _⟩
    · exact .inl hc
    · exact .inr ⟨b, 0, rfl, hB.lt, trivial, fun j hj => by omega⟩
  obtain ⟨b, sp, rfl, hB, _, hseg⟩ := own_in ho (by omega)
  refine .inr ⟨b, 0, rfl, hB.lt, trivial, fun j hj o ho' => ?_⟩
  have ho8 : o < 8 := by simpa [dC] using ho'
  have hlen := flat_len xs
  rw [Nat.zero_add, ← flat_get (by omega) ho8]
  have := hseg (j * 8 + o) (by omega)
  rw [Nat.zero_add] at this
  exact this
theorem sle_all {w : World} {k : IntKind} {a : Option Addr} {len cap : Nat} {xs : List Int} {D : Nat → Prop} (h : SlE w k a len cap xs D) : SlE w k a len cap xs (fun _ => True) := h.mono fun _ _ _ => trivial
theorem DOk.all {w : World} {x : DeedC} {D : Nat → Prop} (h : DOk w x D) : DOk w x (fun _ => True) := ⟨sle_all h.b, sle_all h.keep, h.kind, h.n, h.m, h.k, h.each⟩
set_option maxRecDepth 100000 in
set_option maxHeartbeats 4000000 in
theorem whole_calls (xs ys : List DeedC) (a b : Option Addr) (ca cb : Nat) (w : World) {D D' : Nat → Prop} (ha : SlD w a xs.length ca xs D) (hb : SlD w b ys.length cb ys D') (hL : Lad w) :
    Calls Tryd.prog 3 #[.slice a xs.length ca, .slice b ys.length cb] w fun e w' => e = .returned (.bool true) ∧ Kp No w w' := by
  refine calls_at (n := 60) Tryd.func3 rfl rfl (by simp) ?_
  (refine At_seq ?_; refine At_region ?_; refine s_as ?_; refine AtR_nil ?_; refine At_seq ?_; refine At_seq ?_; refine At_region ?_)
  refine s_call x_call (awake_calls _ hL) ?_
  rintro _ w1 ⟨rfl, k1⟩
  refine ⟨_, rfl, ?_⟩
  (refine s_nt ?_; refine s_mv ?_; refine s_yes rfl rfl rfl rfl ?_; refine g_mv ?_)
  refine s_yes rfl rfl rfl rfl ?_
  refine g_call x_call (small_calls xs a ca _ (ha.kpn k1)) ?_
  rintro _ _ ⟨rfl, rfl⟩
  refine ⟨_, rfl, ?_⟩
  cases hsa : smL xs with
  | false =>
    (refine s_yes rfl rfl rfl rfl ?_; refine g_nt ?_; refine s_pf ?_; refine s_mv ?_; refine s_no rfl rfl rfl rfl ?_; refine s_no rfl rfl rfl rfl ?_; refine s_no rfl rfl rfl rfl ?_; refine s_pt ?_; refine AtR_nil ?_; refine At_cond_t rfl ?_; refine At_seq ?_; refine At_region ?_)
    refine s_call x_call (awake_calls _ (hL.kpn k1)) ?_
    rintro _ w2 ⟨rfl, k2⟩
    refine ⟨_, rfl, ?_⟩
    (refine s_as ?_; refine AtR_nil ?_)
    refine At_ret1 Tryd.func3 rfl (by conv => lhs; whnf) ?_
    exact ⟨rfl, k1.trans k2⟩
  | true =>
  (refine s_yes rfl rfl rfl rfl ?_; refine g_nt ?_; refine s_pf ?_; refine s_mv ?_; refine s_yes rfl rfl rfl rfl ?_; refine g_mv ?_)
  refine s_yes rfl rfl rfl rfl ?_
  refine g_call x_call (small_calls ys b cb _ (hb.kpn k1)) ?_
  rintro _ _ ⟨rfl, rfl⟩
  refine ⟨_, rfl, ?_⟩
  cases hsb : smL ys with
  | false =>
    (refine s_yes rfl rfl rfl rfl ?_; refine g_nt ?_; refine s_pf ?_; refine AtR_nil ?_; refine At_cond_t rfl ?_; refine At_seq ?_; refine At_region ?_)
    refine s_call x_call (awake_calls _ (hL.kpn k1)) ?_
    rintro _ w2 ⟨rfl, k2⟩
    refine ⟨_, rfl, ?_⟩
    (refine s_as ?_; refine AtR_nil ?_)
    refine At_ret1 Tryd.func3 rfl (by conv => lhs; whnf) ?_
    exact ⟨rfl, k1.trans k2⟩
  | true =>
  obtain ⟨la, sa⟩ := smL_t hsa
  obtain ⟨lb, sb⟩ := smL_t hsb
  (refine s_yes rfl rfl rfl rfl ?_; refine g_nt ?_; refine s_pf ?_; refine AtR_nil ?_; refine At_cond_f rfl ?_; refine At_skip ?_; refine At_seq ?_; refine At_region ?_; refine s_mv ?_)
  refine s_call x_call (print_calls xs a ca _ (ha.kpn k1) (fun x hx => (sa x hx).sm) (by omega) (hL.kpn k1)) ?_
  rintro _ w2 ⟨rfl, k2⟩
  refine ⟨_, rfl, ?_⟩
  have K2 := k1.trans k2
  (refine s_mv ?_; refine s_ex ?_; refine s_ex ?_; refine s_as ?_; refine s_as ?_; refine AtR_nil ?_; refine At_seq ?_; refine At_region ?_; refine s_mv ?_)
  refine s_call x_call (print_calls ys b cb _ (hb.kpn K2) (fun x hx => (sb x hx).sm) (by omega) (hL.kpn K2)) ?_
  rintro _ w3 ⟨rfl, k3⟩
  refine ⟨_, rfl, ?_⟩
  have K3 := K2.trans k3
  (refine s_mv ?_; refine s_ex ?_; refine s_ex ?_; refine s_as ?_; refine s_as ?_; refine AtR_nil ?_; refine At_seq ?_; refine At_region ?_)
  refine AtR_go rfl (G_val (r_buildSlice0 (s := 8)) ?_)
  rintro _ w4 ⟨b4, rfl, hb4, e4⟩
  have k4 : Kp No w3 w4 := e4.kp (.inr (by omega))
  have O4 : Own w4 32 8 (some ⟨b4, 0, none⟩) 0 0 [] := ⟨rfl, Nat.le_refl _, by decide, .inr ⟨b4, [], rfl, e4.blk, rfl⟩⟩
  clear e4
  have K4 := K3.trans k4
  have z3 := K3.size
  (refine s_mv ?_)
  refine AtR_go rfl (G_val (r_append (s := 8) rfl rfl O4 (ha.kpn K4).src rfl (by omega) (by simp only [maxLen]; omega) (by omega)) ?_)
  rintro _ w5 ⟨a5, c5, rfl, O5, k5, hf5⟩
  have hn5 : ∀ j, blkOf a5 j → w.heap.size ≤ j := fun j hj => by
    rcases hf5 with rfl | ⟨b', rfl, hb'⟩
    · simp [blkOf] at hj; omega
    · simp [blkOf] at hj; have := K4.size; omega
  have K5 : Kp No w w5 := K4.trans' k5 fun j hj => by simp [blkOf] at hj; right; omega
  (refine s_mv ?_)
  refine AtR_go rfl (G_val (r_append (s := 8) rfl rfl O5 (hb.kpn K5).src rfl (by omega) (by simp only [maxLen]; omega) (by omega)) ?_)
  rintro _ w6 ⟨a6, c6, rfl, O6, k6, hf6⟩
  have K6 : Kp No w w6 := K5.trans' k6 fun j hj => .inr (hn5 j hj)
  rw [List.nil_append, ← List.flatMap_append] at O6
  have hin : ∀ x ∈ xs ++ ys, DOk w6 x (fun _ => True) := fun x hx => by
    rcases List.mem_append.1 hx with hx | hx
    · exact ((ha.inner x hx).kpn K6).all
    · exact ((hb.inner x hx).kpn K6).all
  have hlen : 0 + xs.length + ys.length = (xs ++ ys).length := by simp
  rw [hlen] at O6 ⊢
  refine s_call x_call (print_calls (xs ++ ys) a6 c6 _ (own_sld O6 rfl hin) (fun x hx => ?_) (by simp; omega) (hL.kpn K6)) ?_
  · rcases List.mem_append.1 hx with hx | hx
    · exact (sa x hx).sm
    · exact (sb x hx).sm
  rintro _ w7 ⟨rfl, k7⟩
  refine ⟨_, rfl, ?_⟩
  have K7 := K6.trans k7
  have happ := goD_app errD (fun x => lineD x.plain) xs ys
  have htx : ∀ zs : List DeedC, zs.length ≤ 40 → (prn zs).2 = 0 → (prn zs).1.length ≤ 200000 := fun zs hz h => by
    have h1 : (prn zs).1 = txt zs := goD_text h
    have h2 := txt_len (xs := zs) (goD_ok.1 h)
    rw [h1]; omega
  have t1 := htx xs (by omega)
  have t2 := htx ys (by omega)
  change ((prn xs).2 = 0 ∧ (prn ys).2 = 0 → (prn (xs ++ ys)).2 = 0 ∧ (prn (xs ++ ys)).1 = (prn xs).1 ++ (prn ys).1) ∧ (¬ ((prn xs).2 = 0 ∧ (prn ys).2 = 0) → (prn (xs ++ ys)).2 ≠ 0) at happ
  clear htx
  generalize prn xs = px at *
  generalize prn ys = py at *
  generalize prn (xs ++ ys) = pz at *
  obtain ⟨s, e⟩ := px
  obtain ⟨t, f⟩ := py
  obtain ⟨u, g⟩ := pz
  simp only at happ t1 t2 ⊢
  by_cases he : e = 0
  · by_cases hf : f = 0
    · obtain ⟨rfl, rfl⟩ := happ.1 ⟨he, hf⟩
      subst he
      subst hf
      have t1 := t1 rfl
      have t2 := t2 rfl
      (refine s_mv ?_; refine s_ex ?_; refine s_ex ?_; refine s_as ?_; refine s_as ?_; refine AtR_nil ?_; refine At_seq ?_; refine At_seq ?_; refine At_region ?_; refine s_mv ?_; refine s_neq ?_; refine s_mv ?_; refine s_yes rfl rfl rfl rfl ?_; refine g_mv ?_; refine s_yes rfl rfl rfl rfl ?_; refine g_neq ?_; refine s_pf ?_; refine AtR_nil ?_; refine At_cond_f rfl ?_; refine At_skip ?_; refine At_seq ?_; refine At_region ?_; refine s_mv ?_; refine s_eql ?_; refine s_mv ?_; refine s_yes rfl rfl rfl rfl ?_; refine g_mv ?_; refine s_yes rfl rfl rfl rfl ?_; refine g_mv ?_; refine s_yes rfl rfl rfl rfl ?_; refine g_mv ?_)
      refine s_yes rfl rfl rfl rfl ?_
      refine g_val (x_cat rfl rfl (by omega)) ?_
      refine s_yes rfl rfl rfl rfl ?_
      refine g_bool (x_eql_str rfl rfl) (decide_eq_true rfl) ?_
      (refine s_pt ?_; refine s_as ?_; refine AtR_nil ?_)
      refine At_ret1 Tryd.func3 rfl (by conv => lhs; whnf) ?_
      exact ⟨rfl, K7⟩
    · have hg := happ.2 fun h => hf h.2
      subst he
      have hf2 : ¬ (f : Int) = 0 := by omega
      have hg2 : ¬ (g : Int) = 0 := by omega
      (refine s_mv ?_; refine s_ex ?_; refine s_ex ?_; refine s_as ?_; refine s_as ?_; refine AtR_nil ?_; refine At_seq ?_; refine At_seq ?_; refine At_region ?_; refine s_mv ?_; refine s_neq ?_; refine s_mv ?_; refine s_yes rfl rfl rfl rfl ?_; refine g_mv ?_; refine s_yes rfl rfl rfl rfl ?_; refine g_neq ?_; refine s_pf ?_; refine AtR_nil ?_; refine At_cond_t rfl ?_; refine At_seq ?_; refine At_region ?_; refine s_mv ?_; refine s_neq ?_; refine s_as ?_; refine AtR_nil ?_)
      refine At_ret1 Tryd.func3 rfl (by conv => lhs; whnf) ?_
      exact ⟨rfl, K7⟩
  · have hg := happ.2 fun h => he h.1
    have he2 : ¬ (e : Int) = 0 := by omega
    have hg2 : ¬ (g : Int) = 0 := by omega
    (refine s_mv ?_; refine s_ex ?_; refine s_ex ?_; refine s_as ?_; refine s_as ?_; refine AtR_nil ?_; refine At_seq ?_; refine At_seq ?_; refine At_region ?_; refine s_mv ?_; refine s_neq ?_; refine s_mv ?_; refine s_no rfl rfl rfl rfl ?_; refine s_no rfl rfl rfl rfl ?_; refine s_pt ?_; refine AtR_nil ?_; refine At_cond_t rfl ?_; refine At_seq ?_; refine At_region ?_; refine s_mv ?_; refine s_neq ?_; refine s_as ?_; refine AtR_nil ?_)
    refine At_ret1 Tryd.func3 rfl (by conv => lhs; whnf) ?_
    exact ⟨rfl, K7⟩
end Go.Proofs.YtgobmphkakmdmaaDoor
