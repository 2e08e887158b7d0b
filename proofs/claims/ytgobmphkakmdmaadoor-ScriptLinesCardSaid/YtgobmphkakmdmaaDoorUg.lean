/- Join; numbers' word: walked. -/
import Derived.Test.YtgobmphkakmdmaaDoorUf
import Derived.Lib.ItoaLen
set_option linter.unusedVariables false
namespace Go.Proofs.YtgobmphkakmdmaaDoor
open Go Go.Kx Go.Sc
theorem own_in {w : World} {E : TypeId} {s m cap : Nat} {a : Option Addr} {cs : List Value} (h : Own w E s a m cap cs) (h0 : 0 < m) : ∃ b sp, a = some ⟨b, 0, none⟩ ∧ Blk w b E (0, 0) (cs ++ sp) ∧ (cs ++ sp).length = cap * s ∧ Seg w b 0 cs := by
  obtain ⟨h1, h2, h3, h4⟩ := h
  rcases h4 with ⟨rfl, hc⟩ | ⟨b, sp, rfl, hb, hl⟩
  · omega
  · refine ⟨b, sp, rfl, hb, hl, fun j hj => ?_⟩
    rw [Nat.zero_add, hb.cell, List.getElem?_append_left hj]
theorem line_flat (c : UInt8) : ∀ (x : List UInt8) (r : List (List UInt8)), line c (x :: r) = x ++ r.flatMap (fun y => c :: y)
  | x, [] => by simp [line]
  | x, y :: r => by rw [line, line_flat c y r, List.flatMap_cons]; simp
theorem strs_get {xs : List (List UInt8)} {i : Nat} (h : i < xs.length) : (xs.map strV)[i]? = some (strV (xs.getD i [])) := by simp [List.getD, h]
/-- How many octets some texts have. -/
def sumL (xs : List (List UInt8)) : Nat := (xs.map List.length).sum
theorem sumL_snoc {xs : List (List UInt8)} {i : Nat} (h : i < xs.length) : sumL (xs.take (i + 1)) = sumL (xs.take i) + (xs.getD i []).length := by
  unfold sumL
  rw [List.take_succ_eq_append_getElem h, List.map_append, List.sum_append]
  simp [List.getD, h]
theorem sumL_le (xs : List (List UInt8)) (i : Nat) : sumL (xs.take i) ≤ sumL xs := by
  have h := congrArg sumL (List.take_append_drop i xs)
  unfold sumL at *
  rw [List.map_append, List.sum_append] at h
  omega
theorem line_len (c : UInt8) : ∀ (x : List UInt8) (r : List (List UInt8)), (line c (x :: r)).length = sumL (x :: r) + r.length
  | x, [] => by simp [line, sumL]
  | x, y :: r => by
    have ih := line_len c y r
    rw [line, List.length_append, List.length_cons, ih]
    simp only [sumL, List.map_cons, List.sum_cons, List.length_cons]
    omega
set_option maxRecDepth 100000 in
set_option maxHeartbeats 4000000 in
theorem join_calls (xs : List (List UInt8)) (c : UInt8) (a : Option Addr) (cap : Nat) (w : World) (ho : Own w 9 1 a xs.length cap (xs.map strV)) (hl : xs.length ≤ 1000000) (hs : sumL xs ≤ 100000000000000) :
    Calls Tryd.prog 20 #[.slice a xs.length cap, strV [c]] w fun e w' => e = .returned (strV (line c xs)) ∧ Kp No w w' := by
  refine calls_at (n := 75) Tryd.func20 rfl rfl (by simp) ?_
  have h1c : [c].length = 1 := rfl
  by_cases h0 : xs.length = 0
  · obtain rfl : xs = [] := List.eq_nil_of_length_eq_zero h0
    (refine At_seq ?_; refine At_region ?_; refine s_as ?_; refine AtR_nil ?_; refine At_seq ?_; refine At_seq ?_; refine At_region ?_; refine s_mv ?_; refine s_ln ?_; refine AtR_nil ?_; refine At_block ?_; refine At_seq ?_; refine At_region ?_; refine s_eql ?_; refine s_as ?_; refine AtR_nil ?_; refine At_cond_t rfl ?_; refine At_seq ?_; refine At_region ?_; refine s_as ?_; refine AtR_nil ?_)
    refine At_ret1 Tryd.func20 rfl (by conv => lhs; whnf) ?_
    exact ⟨rfl, .refl _ _⟩
  obtain ⟨b, sp, rfl, hB, hBl, hseg⟩ := own_in ho (by omega)
  have hblt := hB.lt
  by_cases h1 : xs.length = 1
  · obtain ⟨x, rfl⟩ := List.length_eq_one_iff.1 h1
    (refine At_seq ?_; refine At_region ?_; refine s_as ?_; refine AtR_nil ?_; refine At_seq ?_; refine At_seq ?_; refine At_region ?_; refine s_mv ?_; refine s_ln ?_; refine AtR_nil ?_; refine At_block ?_; refine At_seq ?_; refine At_region ?_; refine s_eql ?_; refine s_as ?_; refine AtR_nil ?_; refine At_cond_f rfl ?_; refine At_seq ?_; refine At_region ?_; refine s_eql ?_; refine s_as ?_; refine AtR_nil ?_; refine At_cond_t rfl ?_; refine At_seq ?_; refine At_region ?_; refine s_mv ?_; refine s_ia ?_; refine s_ld ?_; refine s_as ?_; refine AtR_nil ?_)
    refine At_ret1 Tryd.func20 rfl (by conv => lhs; whnf) ?_
    exact ⟨rfl, .refl _ _⟩
  obtain ⟨x, r, rfl⟩ : ∃ x r, xs = x :: r := by
    cases xs with
    | nil => simp at h0
    | cons x r => exact ⟨x, r, rfl⟩
  have hr : 0 < r.length := by simp at h1; cases r <;> simp_all
  obtain ⟨xs, hxs⟩ : ∃ xs, xs = x :: r := ⟨_, rfl⟩
  have hxl : xs.length = r.length + 1 := by rw [hxs]; simp
  have hx0 : xs.getD 0 [] = x := by rw [hxs]; rfl
  have hxi : ∀ i, xs.getD (i + 1) [] = r.getD i [] := by intro i; rw [hxs]; simp [List.getD]
  have hll := line_len c x r
  have hlf := line_flat c x r
  rw [← hxs] at ho hl hs h0 h1 hB hBl hseg hll hlf ⊢
  clear ho
  have hq : 2 ≤ 9223372036854775807 / ((xs.length : Int) - 1) := Int.le_ediv_of_mul_le (by omega) (by omega)
  (refine At_seq ?_; refine At_region ?_; refine s_as ?_; refine AtR_nil ?_; refine At_seq ?_; refine At_seq ?_; refine At_region ?_; refine s_mv ?_; refine s_ln ?_; refine AtR_nil ?_; refine At_block ?_; refine At_seq ?_; refine At_region ?_; refine s_eql ?_; refine s_as ?_; refine AtR_nil ?_; refine At_cond_f rfl ?_; refine At_seq ?_; refine At_region ?_; refine s_eql ?_; refine s_as ?_; refine AtR_nil ?_; refine At_cond_f rfl ?_; refine At_skip ?_; refine At_inBlock ?_; refine At_seq ?_; refine At_region ?_; refine s_as ?_; refine AtR_nil ?_; refine At_seq ?_; refine At_seq ?_; refine At_region ?_; refine s_mv ?_; refine s_lns ?_; refine s_gtr ?_; refine AtR_nil ?_; refine At_cond_t rfl ?_; refine At_seq ?_; refine At_seq ?_; refine At_region ?_; refine s_mv ?_; refine s_lns ?_; refine s_mv ?_; refine s_ln ?_; refine s_sb ?_; refine s_qu ?_; refine s_geq ?_; refine AtR_nil ?_; refine At_cond_f rfl ?_; refine At_skip ?_; refine At_region ?_; refine s_mv ?_; refine s_mv ?_; refine s_lns ?_; refine s_mv ?_; refine s_ln ?_; refine s_sb ?_)
  refine s_val (x_mul64 rfl rfl (by rw [h1c]; omega) (by rw [h1c]; omega)) ?_
  rw [show ((([c] : List UInt8).length : Int) * ((xs.length : Int) - 1)) = (r.length : Int) by rw [h1c]; omega]
  (refine s_ad ?_; refine s_as ?_; refine AtR_nil ?_; refine At_seq ?_; refine At_seq ?_; refine At_region ?_; refine s_mv ?_; refine s_ln ?_; refine s_mv ?_; refine AtR_nil ?_; refine At_block ?_)
  rw [show (0 : Int) + (r.length : Int) = ((r.length : Nat) : Int) by omega]
  refine At_while (fun i : Nat => [(0, .slice (some ⟨b, 0, none⟩) xs.length cap), (1, strV [c]), (5, .int .i64 ((r.length + sumL (xs.take i) : Nat) : Int)), (39, .slice (some ⟨b, 0, none⟩) xs.length cap), (40, .int .i64 (xs.length : Int)), (41, .int .i64 (i : Int))])
    (fun i w' => i ≤ xs.length ∧ w = w') (fun i => xs.length - i) 0 ⟨rfl, rfl, rfl, rfl, rfl, rfl, trivial⟩ ⟨by omega, rfl⟩ ?_
  rintro i w2 junk ⟨hi, rfl⟩ again
  have hsi := sumL_le xs i
  by_cases hlt : i < xs.length
  · have hsn := sumL_snoc hlt
    have hsi2 := sumL_le xs (i + 1)
    have hg := strs_get hlt
    (refine At_seq ?_; refine At_region ?_; refine s_lss ?_; refine AtR_nil ?_; refine At_seq ?_; refine At_cond_t rfl ?_; refine At_skip ?_; refine At_seq ?_; refine At_block ?_; refine At_seq ?_; refine At_region ?_; refine s_ia ?_)
    refine s_val (x_load_seg (off := 0) rfl hseg hg) ?_
    (refine s_as ?_; refine AtR_nil ?_; refine At_seq ?_; refine At_seq ?_; refine At_region ?_; refine s_mv ?_; refine s_lns ?_; refine s_mv ?_; refine s_sb ?_; refine s_gtr ?_; refine AtR_nil ?_; refine At_cond_f rfl ?_; refine At_skip ?_; refine At_region ?_; refine s_mv ?_; refine s_mv ?_; refine s_lns ?_; refine s_ad ?_; refine s_as ?_; refine AtR_nil ?_; refine At_inBlock ?_; refine At_region ?_; refine s_ad ?_; refine s_mv ?_; refine AtR_nil ?_)
    rw [show ((r.length + sumL (xs.take i) : Nat) : Int) + ((xs.getD i []).length : Int) = ((r.length + sumL (xs.take (i + 1)) : Nat) : Int) by omega]
    exact again (i + 1) _ _ ⟨rfl, rfl, rfl, rfl, rfl, rfl, trivial⟩ ⟨hlt, rfl⟩ (by omega)
  obtain rfl : i = xs.length := by omega
  rw [List.take_length]
  clear again
  (refine At_seq ?_; refine At_region ?_; refine s_lss ?_; refine AtR_nil ?_; refine At_seq ?_; refine At_cond_f rfl ?_; refine At_exit rfl ?_; refine At_seq ?_; refine At_region ?_)
  refine AtR_go rfl (G_val r_alloc ?_)
  rintro _ w1 ⟨bo, rfl, hbo, e1⟩
  have k1 : Kp No w w1 := e1.kp (.inr (by omega))
  have B1 : Blk w1 bo 40 (0, 0) [.pointer none, .slice none 0 0] := e1.blk
  clear e1
  (refine AtR_nil ?_; refine At_seq ?_; refine At_region ?_; refine s_mv ?_)
  refine s_call x_call (grow_calls w.heap.size bo (r.length + sumL xs) _ (by omega) B1 (by omega)) ?_
  rintro _ w2 ⟨rfl, h2, k2⟩
  refine ⟨_, rfl, ?_⟩
  have z1 := k1.size
  have z2 := k2.size
  have K2 : Kp No w w2 := k1.trans' k2 (by rintro j rfl; right; omega)
  have hseg2 := hseg.kp K2 (fun h => h) hblt
  have hg0 : (xs.map strV)[0]? = some (strV x) := by rw [hxs]; rfl
  (refine AtR_nil ?_; refine At_seq ?_; refine At_region ?_; refine s_mv ?_; refine s_ia ?_)
  refine s_val (x_load_seg (off := 0) (j := 0) rfl hseg2 hg0) ?_
  have hsx : x.length ≤ sumL xs := by rw [hxs]; simp [sumL]
  refine s_call x_call (ws_calls w.heap.size bo [] x _ h2 (by simp; omega) (by omega)) ?_
  rintro _ w3 ⟨⟨v3, rfl⟩, h3, k3⟩
  refine ⟨_, rfl, ?_⟩
  have z3 := k3.size
  have K3 : Kp No w w3 := K2.trans' k3 fun j hj => .inr hj
  rw [List.nil_append] at h3
  have hcap : xs.length ≤ cap := by
    have := hBl
    rw [List.length_append, List.length_map] at this
    omega
  (refine AtR_nil ?_; refine At_seq ?_; refine At_seq ?_; refine At_region ?_; refine s_mv ?_)
  refine s_val (x_slice_fromN (l := 1) rfl rfl (by omega) (by omega)) ?_
  (refine s_ln ?_; refine s_mv ?_; refine AtR_nil ?_; refine At_block ?_)
  have hlr : xs.length - 1 = r.length := by omega
  rw [hlr]
  have hacc : ∀ i, i ≤ r.length → (x ++ (r.take i).flatMap (fun y => c :: y)).length ≤ sumL xs + r.length := by
    intro i hi
    have h1 := line_flat c x (r.take i)
    have h2 := line_len c x (r.take i)
    rw [← h1, h2]
    have h3 := sumL_le (x :: r) (i + 1)
    rw [List.take_succ_cons, ← hxs] at h3
    have h4 : (r.take i).length ≤ r.length := by simp; omega
    omega
  refine At_while (fun i : Nat => [(1, strV [c]), (8, .pointer (some ⟨bo, 0, none⟩)), (63, .slice (some ⟨b, 0 + 1, none⟩) r.length (cap - 1)), (64, .int .i64 (r.length : Int)), (65, .int .i64 (i : Int))])
    (fun i w' => i ≤ r.length ∧ Bd w.heap.size w' bo (x ++ (r.take i).flatMap (fun y => c :: y)) ∧ Kp No w w' ∧ w.heap.size ≤ w'.heap.size) (fun i => r.length - i) 0 ⟨rfl, rfl, rfl, rfl, rfl, trivial⟩ ⟨by omega, by simpa using h3, K3, by omega⟩ ?_
  clear h3 h2 hseg2 K2 K3 k1 k2 k3 z1 z2 z3
  rintro i w4 junk2 ⟨hi4, h4, K4, z4⟩ again
  by_cases hlt4 : i < r.length
  · have hg : (xs.map strV)[1 + i]? = some (strV (r.getD i [])) := by
      have := strs_get (xs := xs) (i := i + 1) (by omega)
      rw [hxi, Nat.add_comm] at this; exact this
    have hseg4 := hseg.kp K4 (fun h => h) hblt
    have ha := hacc i hi4
    have ha2 := hacc (i + 1) hlt4
    have hsn : (r.take (i + 1)).flatMap (fun y => c :: y) = (r.take i).flatMap (fun y => c :: y) ++ c :: r.getD i [] := by
      rw [List.take_succ_eq_append_getElem hlt4, List.flatMap_append]
      simp [List.getD, hlt4]
    rw [hsn, ← List.append_assoc, List.length_append, List.length_cons] at ha2
    (refine At_seq ?_; refine At_region ?_; refine s_lss ?_; refine AtR_nil ?_; refine At_seq ?_; refine At_cond_t rfl ?_; refine At_skip ?_; refine At_seq ?_; refine At_block ?_; refine At_seq ?_; refine At_region ?_; refine s_ia ?_)
    refine s_val (x_load_seg (off := 0) (j := 1 + i) (by first | rfl | exact congrArg (fun o => Value.pointer (some ⟨b, o, none⟩)) (by omega)) hseg4 hg) ?_
    (refine s_as ?_; refine AtR_nil ?_; refine At_seq ?_; refine At_region ?_; refine s_mv ?_)
    refine s_call x_call (ws_calls w.heap.size bo _ [c] _ h4 (by rw [h1c]; omega) (by omega)) ?_
    rintro _ w5 ⟨⟨v5, rfl⟩, h5, k5⟩
    refine ⟨_, rfl, ?_⟩
    have z5 := k5.size
    (refine AtR_nil ?_; refine At_region ?_; refine s_mv ?_)
    refine s_call x_call (ws_calls w.heap.size bo _ (r.getD i []) _ h5 (by rw [List.length_append, h1c]; omega) (by omega)) ?_
    rintro _ w6 ⟨⟨v6, rfl⟩, h6, k6⟩
    refine ⟨_, rfl, ?_⟩
    have z6 := k6.size
    (refine AtR_nil ?_; refine At_inBlock ?_; refine At_region ?_; refine s_ad ?_; refine s_mv ?_; refine AtR_nil ?_)
    refine again (i + 1) _ _ ⟨rfl, rfl, rfl, rfl, rfl, trivial⟩ ⟨hlt4, ?_, (K4.trans' k5 fun j hj => .inr hj).trans' k6 fun j hj => .inr hj, by omega⟩ (by omega)
    rw [hsn]
    simpa using h6
  · obtain rfl : i = r.length := by omega
    have ha := hacc _ hi4
    rw [List.take_length] at h4 ha
    rw [← hlf] at h4 ha
    (refine At_seq ?_; refine At_region ?_; refine s_lss ?_; refine AtR_nil ?_; refine At_seq ?_; refine At_cond_f rfl ?_; refine At_exit rfl ?_; refine At_seq ?_; refine At_region ?_)
    refine s_call x_call (st_calls w.heap.size bo _ _ h4 (by omega)) ?_
    rintro _ w5 ⟨rfl, k5⟩
    refine ⟨_, rfl, ?_⟩
    (refine s_as ?_; refine AtR_nil ?_)
    refine At_ret1 Tryd.func20 rfl (by conv => lhs; whnf) ?_
    exact ⟨rfl, K4.trans' k5 fun j hj => .inr hj⟩
set_option maxRecDepth 100000 in
set_option maxHeartbeats 4000000 in
theorem list_calls (l : List Int) (a : Option Addr) (cap : Nat) (w : World) {D : Nat → Prop} (hs : SlE w .i64 a l.length cap l D) (hl : l.length ≤ 100000) (hn : ∀ n ∈ l, -9223372036854775808 ≤ n ∧ n ≤ 9223372036854775807) (hT : Tab w) :
    Calls Tryd.prog 26 #[.slice a l.length cap] w fun e w' => e = .returned (strV (listB l)) ∧ Kp No w w' := by
  refine calls_at (n := 23) Tryd.func26 rfl rfl (by simp) ?_
  by_cases h0 : l.length = 0
  · obtain rfl : l = [] := List.eq_nil_of_length_eq_zero h0
    (refine At_seq ?_; refine At_region ?_; refine s_as ?_; refine AtR_nil ?_; refine At_seq ?_; refine At_seq ?_; refine At_region ?_; refine s_mv ?_; refine s_ln ?_; refine s_eql ?_; refine AtR_nil ?_; refine At_cond_t rfl ?_; refine At_seq ?_; refine At_region ?_; refine s_as ?_; refine AtR_nil ?_)
    refine At_ret1 Tryd.func26 rfl (by conv => lhs; whnf) ?_
    exact ⟨rfl, .refl _ _⟩
  have hne : l ≠ [] := fun h => h0 (by rw [h]; rfl)
  (refine At_seq ?_; refine At_region ?_; refine s_as ?_; refine AtR_nil ?_; refine At_seq ?_; refine At_seq ?_; refine At_region ?_; refine s_mv ?_; refine s_ln ?_; refine s_eql ?_; refine AtR_nil ?_; refine At_cond_f rfl ?_; refine At_skip ?_; refine At_seq ?_; refine At_region ?_; refine s_as ?_; refine AtR_nil ?_; refine At_seq ?_; refine At_seq ?_; refine At_region ?_; refine s_mv ?_; refine s_ln ?_; refine s_mv ?_; refine AtR_nil ?_; refine At_block ?_)
  refine At_while (fun s : Nat × Option Addr × Nat => [(3, .slice s.2.1 s.1 s.2.2), (9, .slice a l.length cap), (10, .int .i64 (l.length : Int)), (11, .int .i64 (s.1 : Int))])
    (fun s w' => s.1 ≤ l.length ∧ Own w' 9 1 s.2.1 s.1 s.2.2 ((l.take s.1).map fun n => strV (Lib.itoa n)) ∧ (∀ j, blkOf s.2.1 j → w.heap.size ≤ j) ∧ Kp No w w') (fun s => l.length - s.1) (0, none, 0) ⟨rfl, rfl, rfl, rfl, trivial⟩ ⟨by omega, Own.nil _ _ _, fun j hj => by simp [blkOf] at hj, Kp.refl _ _⟩ ?_
  rintro ⟨i, ao, co⟩ w2 junk ⟨hi, ho, hb, K⟩ again
  simp only at hi ho hb again ⊢
  by_cases hlt : i < l.length
  · have hcap := hs.le
    rcases hs.mem with hc | ⟨b, off, rfl, hblt, _, hseg⟩
    · omega
    have hseg2 := hseg.kp K (fun h => h) hblt
    have hni := hn (l.getD i 0) (by
      have : l.getD i 0 = l[i] := by simp [List.getD, hlt]
      rw [this]; exact List.getElem_mem hlt)
    have hsn : (l.take (i + 1)).map (fun n => strV (Lib.itoa n)) = (l.take i).map (fun n => strV (Lib.itoa n)) ++ [strV (Lib.itoa (l.getD i 0))] := by
      rw [List.take_succ_eq_append_getElem hlt, List.map_append]
      simp [List.getD, hlt]
    (refine At_seq ?_; refine At_region ?_; refine s_lss ?_; refine AtR_nil ?_; refine At_seq ?_; refine At_cond_t rfl ?_; refine At_skip ?_; refine At_seq ?_; refine At_block ?_; refine At_seq ?_; refine At_region ?_; refine s_ia ?_; refine s_ld ?_; refine s_as ?_; refine AtR_nil ?_; refine At_region ?_; refine s_mv ?_; refine s_mv ?_)
    refine s_call x_call (itoa_calls (l.getD i 0) _ hni (hT.kpn K)) ?_
    rintro _ w3 ⟨rfl, k3⟩
    refine ⟨_, rfl, ?_⟩
    refine AtR_go rfl (G_val (r_buildSlice1 (os := [_]) rfl rfl (by omega) rfl rfl rfl) ?_)
    rintro _ w4 ⟨b4, rfl, hb4, e4⟩
    have k4 : Kp No w3 w4 := e4.kp (.inr (by omega))
    have B4 : Blk w4 b4 9 (0, 0) [strV (Lib.itoa (l.getD i 0))] := e4.blk
    clear e4
    have k34 := k3.trans k4
    have ho4 := ho.kp k34 fun _ _ h => h
    have hmx := ho.2.2.1
    refine AtR_go rfl (G_val (r_append (j := 1) rfl rfl ho4 (B4.src (T := 34) (len := 1) (cap := 1) Tryd.underlying34 rfl rfl) rfl (by omega) (by simp only [maxLen]; omega) (by omega)) ?_)
    rintro _ w5 ⟨a5, c5, rfl, ho5, k5, hf5⟩
    rw [← hsn] at ho5
    have z3 := k3.size
    have z4 := k4.size
    have zK := K.size
    (refine s_as ?_; refine AtR_nil ?_; refine At_inBlock ?_; refine At_region ?_; refine s_ad ?_; refine s_mv ?_; refine AtR_nil ?_)
    refine again (i + 1, a5, c5) _ _ ⟨rfl, rfl, rfl, rfl, trivial⟩ ⟨hlt, ho5, fun j hj => ?_, (K.trans k34).trans' k5 fun j hj => .inr (hb j hj)⟩ (by simp only; omega)
    rcases hf5 with rfl | ⟨b', rfl, hb'⟩
    · exact hb j hj
    · simp [blkOf] at hj; omega
  · obtain rfl : i = l.length := by omega
    rw [List.take_length] at ho
    have hil : ∀ n : Int, -9223372036854775808 ≤ n ∧ n ≤ 9223372036854775807 → (Lib.itoa n).length ≤ 40 := fun n h => by
      have := Lib.itoa_length_le n h.1 h.2
      omega
    have hsum : ∀ l : List Int, (∀ n ∈ l, -9223372036854775808 ≤ n ∧ n ≤ 9223372036854775807) → sumL (l.map Lib.itoa) ≤ 40 * l.length := by
      intro l
      induction l with
      | nil => intro _; simp [sumL]
      | cons a l ih =>
        intro h
        have h1 := ih fun n hn => h n (List.mem_cons_of_mem _ hn)
        have h2 := hil a (h a (List.mem_cons_self ..))
        simp only [sumL, List.map_cons, List.sum_cons, List.length_cons] at h1 ⊢
        omega
    have hs1 := hsum l hn
    have hml : (l.map Lib.itoa).length = l.length := List.length_map _
    have ho' : Own w2 9 1 ao (l.map Lib.itoa).length co ((l.map Lib.itoa).map strV) := by rw [List.map_map, hml]; exact ho
    (refine At_seq ?_; refine At_region ?_; refine s_lss ?_; refine AtR_nil ?_; refine At_seq ?_; refine At_cond_f rfl ?_; refine At_exit rfl ?_; refine At_seq ?_; refine At_region ?_; refine s_mv ?_)
    rw [← hml]
    refine s_call x_call (join_calls (l.map Lib.itoa) 44 ao co _ ho' (by omega) (by omega)) ?_
    rintro _ w3 ⟨rfl, k3⟩
    refine ⟨_, rfl, ?_⟩
    (refine s_as ?_; refine AtR_nil ?_)
    refine At_ret1 Tryd.func26 rfl (by conv => lhs; whnf) ?_
    unfold listB
    rw [if_neg hne]
    exact ⟨rfl, K.trans k3⟩
end Go.Proofs.YtgobmphkakmdmaaDoor
