/- strings.Builder, walked. -/
import Derived.Test.YtgobmphkakmdmaaDoorUb
import Derived.Test.YtgobmphkakmdmaaDoorKt
set_option linter.unusedVariables false
--@def BT := 40
--@def CC := 23
--@def WS := 14
--@def WB := 38
--@def ST := 15
namespace Go.Proofs.YtgobmphkakmdmaaDoor
open Go Go.Kx
abbrev Bd (B : Nat) (w : World) (b : Nat) (l : List UInt8) : Prop := Go.Kx.Bd 40 5 B w b l
theorem Bd.kp {S : Nat → Prop} {B : Nat} {w w' : World} {b : Nat} {l : List UInt8} (h : Bd B w b l) (hk : Kp S w w') (hS : ∀ j, S j → j < B ∨ w.heap.size ≤ j) : Bd B w' b l := by
  obtain ⟨hB, p, a, cap, hb, hp, ho, hd⟩ := h
  have hlt := hb.lt
  refine ⟨hB, p, a, cap, hb.kp hk fun h => ?_, hp, ho.kp hk fun j hj h => ?_, hd⟩
  · have := hS _ h; omega
  · have h1 := hS _ h
    have h2 := (hd j hj).2
    have h3 := ho.lt j hj
    omega
theorem Bd.kpn {B : Nat} {w w' : World} {b : Nat} {l : List UInt8} (h : Bd B w b l) (hk : Kp No w w') : Bd B w' b l := h.kp hk fun _ h => h.elim
theorem Bd.lt {B : Nat} {w : World} {b : Nat} {l : List UInt8} (h : Bd B w b l) : B ≤ b ∧ b < w.heap.size := by
  obtain ⟨hB, p, a, cap, hb, _⟩ := h
  exact ⟨hB, hb.lt⟩
theorem Bd.new {w' : World} {b B : Nat} (hb : Blk w' b 40 (0, 0) [.pointer none, .slice none 0 0]) (hB : B ≤ b) : Bd B w' b [] :=
  ⟨hB, _, none, 0, hb, .inl rfl, Own.nil _ _ _, fun j hj => by simp [blkOf] at hj⟩
instance : TX Tryd.prog 36 Extern.AbiNoEscape.same := ⟨_, Tryd.func36, by kernel_rfl, by kernel_rfl, by kernel_rfl, by kernel_rfl⟩
theorem lies_bd : liesAt Tryd.prog Tryd.prog.depth 40 (2 / Tryd.prog.cellsOf 40) 0 40 1 = true := by kernel_rfl
set_option maxRecDepth 100000 in
set_option maxHeartbeats 4000000 in
theorem cc0_calls (b : Nat) (p v : Value) (w : World) (hb : Blk w b 40 (0, 0) [p, v]) (hp : p = .pointer none ∨ p = .pointer (some ⟨b, 0, none⟩)) :
    Calls Tryd.prog 23 #[.pointer (some ⟨b, 0, none⟩)] w fun e w' => e = .returned (.tuple #[]) ∧ Blk w' b 40 (0, 0) [.pointer (some ⟨b, 0, none⟩), v] ∧ Kp (fun j => j = b) w w' := by
  refine calls_at (n := 20) Tryd.func23 rfl rfl (by simp) ?_
  rcases hp with rfl | rfl
  · (refine At_seq ?_; refine At_region ?_; refine s_mv ?_; refine s_nc ?_; refine s_fa ?_; refine s_ld ?_; refine s_eqln ?_; refine AtR_nil ?_; refine At_cond_t rfl ?_; refine At_region ?_; refine s_mv ?_; refine s_mv ?_)
    refine s_val (x_toUnsafe Tryd.underlying66 rfl hb (by simp) (by decide)) ?_
    refine s_val (x_callX rfl (by rfl)) ?_
    refine s_val (x_fromUnsafe Tryd.underlying66 rfl hb lies_bd) ?_
    (refine s_nc ?_; refine s_fa ?_)
    refine AtR_go rfl (G_skip (r_store1 (v := .pointer (some ⟨b, 0, none⟩)) rfl rfl hb (by simp) rfl rfl) fun w2 e2 => ?_)
    (refine AtR_nil ?_)
    refine At_end0 Tryd.func23 rfl ?_
    exact ⟨rfl, e2.blk, e2.kp (.inl rfl)⟩
  · (refine At_seq ?_; refine At_region ?_; refine s_mv ?_; refine s_nc ?_; refine s_fa ?_; refine s_ld ?_; refine s_eqlp ?_; refine AtR_nil ?_; refine At_cond_f rfl ?_; refine At_seq ?_; refine At_region ?_; refine s_mv ?_; refine s_nc ?_; refine s_fa ?_; refine s_ld ?_; refine s_mv ?_)
    refine s_val (x_neqPS rfl rfl) ?_
    (refine AtR_nil ?_; refine At_cond_f rfl ?_; refine At_skip ?_)
    refine At_end0 Tryd.func23 rfl ?_
    exact ⟨rfl, hb, .refl _ _⟩
theorem cc_calls (B b : Nat) (l : List UInt8) (w : World) (h : Bd B w b l) :
    Calls Tryd.prog 23 #[.pointer (some ⟨b, 0, none⟩)] w fun e w' => e = .returned (.tuple #[]) ∧ Bd B w' b l ∧ Kp (fun j => B ≤ j) w w' := by
  obtain ⟨hB, p, a, cap, hb, hp, ho, hd⟩ := h
  refine (cc0_calls b p _ w hb hp).mono ?_
  rintro _ w2 ⟨rfl, hb2, k2⟩
  exact ⟨rfl, ⟨hB, _, a, cap, hb2, .inr rfl, ho.kp k2 (fun j hj h => (hd j hj).1 h), hd⟩, k2.mono fun j h => by subst h; exact hB⟩
set_option maxRecDepth 100000 in
set_option maxHeartbeats 4000000 in
theorem ws_calls (B b : Nat) (l s : List UInt8) (w : World) (h : Bd B w b l) (hl : l.length + s.length ≤ 140737488355328) (hB0 : B ≤ w.heap.size) :
    Calls Tryd.prog 14 #[.pointer (some ⟨b, 0, none⟩), strV s] w fun e w' => (∃ v, e = .returned v) ∧ Bd B w' b (l ++ s) ∧ Kp (fun j => B ≤ j) w w' := by
  refine calls_at (n := 19) Tryd.func14 rfl rfl (by simp) ?_
  (refine At_seq ?_; refine At_region ?_; refine s_as ?_; refine s_as ?_; refine AtR_nil ?_; refine At_seq ?_; refine At_region ?_; refine s_mv ?_)
  refine s_call x_call (cc_calls B b l _ h) ?_
  rintro _ w1 ⟨rfl, h1, k1⟩
  refine ⟨_, rfl, ?_⟩
  obtain ⟨hB, p, a, cap, hb, hp, ho, hd⟩ := h1
  (refine AtR_nil ?_; refine At_seq ?_; refine At_region ?_; refine s_mv ?_; refine s_mv ?_; refine s_nc ?_; refine s_fa ?_; refine s_ld ?_; refine s_mv ?_)
  refine AtR_go rfl (G_val (r_append rfl rfl ho (src_str (T := 9) rfl _) rfl (by omega) (by simp only [maxLen]; omega) (by omega)) ?_)
  rintro _ w2 ⟨a2, c2, rfl, ho2, k2, hf2⟩
  have hb2 := hb.kp k2 fun h => (hd b h).1 rfl
  (refine s_nc ?_; refine s_fa ?_)
  refine AtR_go rfl (G_skip (r_store1 (v := .slice a2 (l.length + s.length) c2) rfl rfl hb2 (by simp) rfl rfl) fun w3 e3 => ?_)
  (refine AtR_nil ?_; refine At_seq ?_; refine At_region ?_; refine s_mv ?_; refine s_lns ?_; refine s_as ?_; refine s_as ?_; refine AtR_nil ?_)
  refine At_ret2 Tryd.func14 rfl (by conv => lhs; whnf) (by conv => lhs; whnf) ?_
  have k3 : Kp (fun j => j = b) w2 w3 := e3.kp (.inl rfl)
  have z1 := k1.size
  have hn : ∀ j, blkOf a2 j → j ≠ b ∧ B ≤ j := fun j hj => by
    rcases hf2 with rfl | ⟨b', rfl, hb'⟩
    · exact hd j hj
    · simp [blkOf] at hj
      have := hb.lt
      omega
  have hlen : l.length + s.length = (l ++ s).length := by simp
  have e2 : ints .u8 (bs8 l) ++ ints .u8 (bs8 s) = ints .u8 (bs8 (l ++ s)) := by simp [ints, bs8]
  rw [e2, hlen] at ho2
  rw [hlen] at e3
  have ho3 := ho2.kp k3 (fun j hj h => (hn j hj).1 h)
  refine ⟨⟨_, rfl⟩, ⟨hB, p, a2, c2, e3.blk, hp, ho3, hn⟩, (k1.trans (k2.mono fun j hj => (hd j hj).2)).trans (k3.mono fun j h => by subst h; exact hB)⟩
set_option maxRecDepth 100000 in
set_option maxHeartbeats 4000000 in
theorem wb_calls (B b : Nat) (l : List UInt8) (c : UInt8) (w : World) (h : Bd B w b l) (hl : l.length + 1 ≤ 140737488355328) (hB0 : B ≤ w.heap.size) :
    Calls Tryd.prog 38 #[.pointer (some ⟨b, 0, none⟩), .int .u8 (ub c)] w fun e w' => (∃ v, e = .returned v) ∧ Bd B w' b (l ++ [c]) ∧ Kp (fun j => B ≤ j) w w' := by
  refine calls_at (n := 17) Tryd.func38 rfl rfl (by simp) ?_
  (refine At_seq ?_; refine At_region ?_; refine s_as ?_; refine AtR_nil ?_; refine At_seq ?_; refine At_region ?_; refine s_mv ?_)
  refine s_call x_call (cc_calls B b l _ h) ?_
  rintro _ w1 ⟨rfl, h1, k1⟩
  refine ⟨_, rfl, ?_⟩
  obtain ⟨hB, p, a, cap, hb, hp, ho, hd⟩ := h1
  (refine AtR_nil ?_; refine At_seq ?_; refine At_region ?_; refine s_mv ?_; refine s_mv ?_; refine s_nc ?_; refine s_fa ?_; refine s_ld ?_; refine s_mv ?_)
  refine AtR_go rfl (G_val (r_buildSlice1 (os := [_]) rfl rfl (by omega) rfl rfl rfl) ?_)
  rintro _ wa ⟨ba, rfl, hba, ea⟩
  have ka : Kp No w1 wa := ea.kp (.inr (by omega))
  have Ba : Blk wa ba 5 (0, 0) (ints .u8 (bs8 [c])) := ea.blk
  replace hb := hb.kp ka fun h => h
  replace ho := ho.kp ka fun _ _ h => h
  skip
  refine AtR_go rfl (G_val (r_append (j := 1) (news := ints .u8 (bs8 [c])) rfl rfl ho ((Ba.sl (m := 1) rfl (by omega)).src (T := 29) rfl) rfl (by omega) (by simp only [maxLen]; omega) (by omega)) ?_)
  rintro _ w2 ⟨a2, c2, rfl, ho2, k2, hf2⟩
  have hb2 := hb.kp k2 fun h => (hd b h).1 rfl
  (refine s_nc ?_; refine s_fa ?_)
  refine AtR_go rfl (G_skip (r_store1 (v := .slice a2 (l.length + 1) c2) rfl rfl hb2 (by simp) rfl rfl) fun w3 e3 => ?_)
  (refine AtR_nil ?_; refine At_seq ?_; refine At_region ?_; refine s_as ?_; refine AtR_nil ?_)
  refine At_ret1 Tryd.func38 rfl (by conv => lhs; whnf) ?_
  have k3 : Kp (fun j => j = b) w2 w3 := e3.kp (.inl rfl)
  have z1 := k1.size
  have za := ka.size
  have hn : ∀ j, blkOf a2 j → j ≠ b ∧ B ≤ j := fun j hj => by
    rcases hf2 with rfl | ⟨b', rfl, hb'⟩
    · exact hd j hj
    · simp [blkOf] at hj
      have := hb.lt
      omega
  have hlen : l.length + 1 = (l ++ [c]).length := by simp
  have e2 : ints .u8 (bs8 l) ++ ints .u8 (bs8 [c]) = ints .u8 (bs8 (l ++ [c])) := by simp [ints, bs8]
  rw [e2, hlen] at ho2
  rw [hlen] at e3
  have ho3 := ho2.kp k3 (fun j hj h => (hn j hj).1 h)
  exact ⟨⟨_, rfl⟩, ⟨hB, p, a2, c2, e3.blk, hp, ho3, hn⟩, ((k1.trans (ka.mono fun j h => h.elim)).trans (k2.mono fun j hj => (hd j hj).2)).trans (k3.mono fun j h => by subst h; exact hB)⟩
set_option maxRecDepth 100000 in
set_option maxHeartbeats 4000000 in
theorem st_calls (B b : Nat) (l : List UInt8) (w : World) (h : Bd B w b l) (hl : l.length ≤ 9223372036854775807) :
    Calls Tryd.prog 15 #[.pointer (some ⟨b, 0, none⟩)] w fun e w' => e = .returned (strV l) ∧ Kp (fun j => B ≤ j) w w' := by
  refine calls_at (n := 14) Tryd.func15 rfl rfl (by simp) ?_
  obtain ⟨hB, p, a, cap, hb, hp, ho, hd⟩ := h
  (refine At_seq ?_; refine At_region ?_; refine s_as ?_; refine AtR_nil ?_; refine At_seq ?_)
  have kd := Kp.drew (S := No) (w := w)
  let S : World → Prop := fun w' => Blk w' b 40 (0, 0) [p, .slice a l.length cap]
  have hS : S w.drew := hb.kp kd fun h => h
  replace ho := ho.kp kd fun _ _ h => h
  refine At_draw S rfl ?_
  (apply AtH_take 0 rfl (by decide +kernel) (by exact rfl); (focus (intro wx hx; unfold S at hx; exact x_move (by conv => lhs; whnf))); (focus (exact hS)))
  (apply AtH_take 1 rfl (by decide +kernel) (by exact rfl); (focus (intro wx hx; unfold S at hx; exact x_nilCheck rfl)); (focus (exact hS)))
  (apply AtH_take 2 rfl (by decide +kernel) (by exact rfl); (focus (intro wx hx; unfold S at hx; exact x_fieldAddrN rfl (by first | exact Nat.zero_add _ | exact Nat.add_zero _ | (simp only [Nat.reduceAdd] <;> rfl) | exact rfl))); (focus (exact hS)))
  (apply AtH_take 3 rfl (by decide +kernel) (by exact rfl); (focus (intro wx hx; unfold S at hx; exact x_load1 rfl (by assumption) rfl)); (focus (exact hS)))
  (apply AtH_take 5 rfl (by decide +kernel) (by exact rfl); (focus (intro wx hx; unfold S at hx; exact x_move (by conv => lhs; whnf))); (focus (exact hS)))
  (apply AtH_take 6 rfl (by decide +kernel) (by exact rfl); (focus (intro wx hx; unfold S at hx; exact x_nilCheck rfl)); (focus (exact hS)))
  (apply AtH_take 7 rfl (by decide +kernel) (by exact rfl); (focus (intro wx hx; unfold S at hx; exact x_fieldAddrN rfl (by first | exact Nat.zero_add _ | exact Nat.add_zero _ | (simp only [Nat.reduceAdd] <;> rfl) | exact rfl))); (focus (exact hS)))
  (apply AtH_take 8 rfl (by decide +kernel) (by exact rfl); (focus (intro wx hx; unfold S at hx; exact x_load1 rfl (by assumption) rfl)); (focus (exact hS)))
  (apply AtH_take 9 rfl (by decide +kernel) (by exact rfl); (focus (intro wx hx; unfold S at hx; exact x_len_slice rfl)); (focus (exact hS)))
  -- ready now: 4 call unsafeSliceData(t6)
  refine H_val 4 rfl (by decide +kernel) (by exact rfl) (r_sliceData rfl ho) ?_
  rintro _ w2 ⟨q, rfl, hq, k2⟩
  have hS2 : S w2 := Blk.kp hS k2 fun h => h
  refine ⟨hS2, ?_⟩
  clear hS
  have hS := hS2
  replace ho := ho.kp k2 fun _ _ h => h
  -- ready now: 10 call unsafeString(t7, t12)
  refine H_val 10 rfl (by decide +kernel) (by exact rfl) (r_unsafeStr (by kernel_rfl) ho hq rfl rfl) ?_
  rintro _ w3 ⟨rfl, k3⟩
  have hS3 : S w3 := Blk.kp hS k3 fun h => (hd b h).1 rfl
  refine ⟨hS3, ?_⟩
  clear hS
  have hS := hS3
  (apply AtH_take 11 rfl (by decide +kernel) (by exact rfl); (focus (intro wx hx; unfold S at hx; exact x_assign (by conv => lhs; whnf))); (focus (exact hS)))
  refine AtH_done (by decide +kernel) ?_
  skip
  refine At_ret1 Tryd.func15 rfl (by conv => lhs; whnf) ?_
  exact ⟨rfl, ((kd.trans k2).mono fun j h => h.elim).trans (k3.mono fun j hj => (hd j hj).2)⟩
--@def GR := 29
instance : TX Tryd.prog 49 (Extern.BytealgMakeNoZero.makeNoZero #[3] #[29]) := ⟨_, Tryd.func49, by kernel_rfl, by kernel_rfl, by kernel_rfl, by kernel_rfl⟩
set_option maxRecDepth 100000 in
set_option maxHeartbeats 4000000 in
theorem gr_calls (B b m : Nat) (w : World) (hB : B ≤ b) (hb : Blk w b 40 (0, 0) [.pointer (some ⟨b, 0, none⟩), .slice none 0 0]) (hm : m ≤ 140737488355328) :
    Calls Tryd.prog 42 #[.pointer (some ⟨b, 0, none⟩), .int .i64 (m : Int)] w fun e w' => e = .returned (.tuple #[]) ∧ Bd B w' b [] ∧ Kp (fun j => j = b) w w' := by
  refine calls_at (n := 30) Tryd.func42 rfl rfl (by simp) ?_
  have kd := Kp.drew (S := No) (w := w)
  let S : World → Prop := fun w' => Blk w' b 40 (0, 0) [.pointer (some ⟨b, 0, none⟩), .slice none 0 0]
  have hS : S w.drew := hb.kp kd fun h => h
  have hblt := hb.lt
  (refine At_seq ?_)
  refine At_draw S rfl ?_
  (apply AtH_take 0 rfl (by decide +kernel) (by exact rfl); (focus (intro wx hx; unfold S at hx; exact x_move (by conv => lhs; whnf))); (focus (exact hS)))
  (apply AtH_take 1 rfl (by decide +kernel) (by exact rfl); (focus (intro wx hx; unfold S at hx; exact x_nilCheck rfl)); (focus (exact hS)))
  (apply AtH_take 2 rfl (by decide +kernel) (by exact rfl); (focus (intro wx hx; unfold S at hx; exact x_fieldAddrN rfl (by first | exact Nat.zero_add _ | exact Nat.add_zero _ | (simp only [Nat.reduceAdd] <;> rfl) | exact rfl))); (focus (exact hS)))
  (apply AtH_take 3 rfl (by decide +kernel) (by exact rfl); (focus (intro wx hx; unfold S at hx; exact x_load1 rfl (by assumption) rfl)); (focus (exact hS)))
  (apply AtH_take 6 rfl (by decide +kernel) (by exact rfl); (focus (intro wx hx; unfold S at hx; exact x_move (by conv => lhs; whnf))); (focus (exact hS)))
  (apply AtH_take 9 rfl (by decide +kernel) (by exact rfl); (focus (intro wx hx; unfold S at hx; exact x_move (by conv => lhs; whnf))); (focus (exact hS)))
  (apply AtH_take 10 rfl (by decide +kernel) (by exact rfl); (focus (intro wx hx; unfold S at hx; exact x_nilCheck rfl)); (focus (exact hS)))
  (apply AtH_take 11 rfl (by decide +kernel) (by exact rfl); (focus (intro wx hx; unfold S at hx; exact x_fieldAddrN rfl (by first | exact Nat.zero_add _ | exact Nat.add_zero _ | (simp only [Nat.reduceAdd] <;> rfl) | exact rfl))); (focus (exact hS)))
  (apply AtH_take 12 rfl (by decide +kernel) (by exact rfl); (focus (intro wx hx; unfold S at hx; exact x_load1 rfl (by assumption) rfl)); (focus (exact hS)))
  (apply AtH_take 13 rfl (by decide +kernel) (by exact rfl); (focus (intro wx hx; unfold S at hx; exact x_len_slice rfl)); (focus (exact hS)))
  -- ready now: 4 call cap(t8)
  refine AtH_take 4 rfl (by decide +kernel) (by exact rfl) (fun wx hx => x_cap_slice rfl) hS ?_
  (apply AtH_take 5 rfl (by decide +kernel) (by exact rfl); (focus (intro wx hx; unfold S at hx; exact x_mul64 rfl rfl (by omega) (by omega))); (focus (exact hS)))
  (apply AtH_take 7 rfl (by decide +kernel) (by exact rfl); (focus (intro wx hx; unfold S at hx; exact x_add64 rfl rfl (by omega) (by omega))); (focus (exact hS)))
  -- ready now: 8 call f49(t12)
  obtain ⟨cs, hrun, hcs, hmx⟩ := Lib.run_makeNoZero (P := Tryd.prog) w.drew #[3] 29 5 (by kernel_rfl) m (by omega)
  refine H_val 8 rfl (by decide +kernel) (by exact rfl) (Q := fun v w' => v = .slice (some ⟨w.drew.heap.size, 0, none⟩) m cs.size ∧ w' = w.drew.drew.drew.alloc (.cells cs 5)) ⟨_, _, x_callX (args := [.int .i64 (m : Int)]) ?_ hrun, rfl, rfl⟩ ?_
  · show [Value.int .i64 (2 * ((0 : Nat) : Int) + (m : Int))] = _
    rw [show 2 * ((0 : Nat) : Int) + (m : Int) = m by omega]
  rintro _ w2 ⟨rfl, rfl⟩
  have e2 : Eff w.drew.drew.drew (w.drew.drew.drew.alloc (.cells cs 5)) w.heap.size (.cells cs 5 (0, 0)) := eff_push _ _
  obtain ⟨w2, hw2⟩ : ∃ w2, w2 = w.drew.drew.drew.alloc (.cells cs 5) := ⟨_, rfl⟩
  have e2' : Eff w.drew.drew.drew w2 w.heap.size (.cells cs.toList.toArray 5 (0, 0)) := by rw [hw2, Array.toArray_toList]; exact e2
  rw [← hw2]
  clear hw2 e2 hrun
  have k2 : Kp No w w2 := (Kp.drew.trans (Kp.drew.trans Kp.drew)).trans (e2'.kp (.inr (Nat.le_refl _)))
  have hS2 : S w2 := hb.kp k2 fun h => h
  have Bn : Blk w2 w.heap.size 5 (0, 0) cs.toList := e2'.blk
  refine ⟨hS2, ?_⟩
  clear hS
  have hS := hS2
  -- ready now: 14 slice 29 t13 none (some t18) none
  refine AtH_take 14 rfl (by decide +kernel) (by exact rfl) (fun wx hx => x_slice_h' rfl (fun ad h => by cases h; rfl) rfl (by omega) (by omega)) hS ?_
  (apply AtH_take 15 rfl (by decide +kernel) (by exact rfl); (focus (intro wx hx; unfold S at hx; exact x_assign (by conv => lhs; whnf))); (focus (exact hS)))
  refine AtH_done (by decide +kernel) ?_
  (refine At_seq ?_; refine At_region ?_; refine s_mv ?_; refine s_mv ?_; refine s_nc ?_; refine s_fa ?_; refine s_ld ?_)
  refine s_val (x_copy0 rfl rfl) ?_
  (refine AtR_nil ?_; refine At_region ?_; refine s_mv ?_; refine s_mv ?_; refine s_nc ?_; refine s_fa ?_)
  refine AtR_go rfl (G_skip (r_store1 (v := .slice (some ⟨w.heap.size, 0, none⟩) 0 cs.size) rfl rfl hS2 (by simp) rfl rfl) fun w3 e3 => ?_)
  (refine AtR_nil ?_)
  refine At_end0 Tryd.func42 rfl ?_
  have k3 : Kp (fun j => j = b) w2 w3 := e3.kp (.inl rfl)
  have Bn3 := Bn.kp k3 (by omega)
  refine ⟨rfl, ⟨hB, _, some ⟨w.heap.size, 0, none⟩, cs.size, e3.blk, .inr rfl, ⟨rfl, Nat.zero_le _, by simpa using hmx (by simp only [maxLen]; omega), .inr ⟨_, cs.toList, rfl, Bn3, by simp⟩⟩, fun j hj => ?_⟩, (k2.mono fun j h => h.elim).trans k3⟩
  simp [blkOf] at hj
  omega
set_option maxRecDepth 100000 in
set_option maxHeartbeats 4000000 in
theorem grow_calls (B b m : Nat) (w : World) (hB : B ≤ b) (hb : Blk w b 40 (0, 0) [.pointer none, .slice none 0 0]) (hm : m ≤ 140737488355328) :
    Calls Tryd.prog 29 #[.pointer (some ⟨b, 0, none⟩), .int .i64 (m : Int)] w fun e w' => e = .returned (.tuple #[]) ∧ Bd B w' b [] ∧ Kp (fun j => j = b) w w' := by
  refine calls_at (n := 25) Tryd.func29 rfl rfl (by simp) ?_
  (refine At_seq ?_; refine At_region ?_; refine s_mv ?_)
  refine s_call x_call (cc0_calls b _ _ _ hb (.inl rfl)) ?_
  rintro _ w1 ⟨rfl, hb1, k1⟩
  refine ⟨_, rfl, ?_⟩
  (refine AtR_nil ?_; refine At_seq ?_; refine At_seq ?_; refine At_region ?_; refine s_mv ?_; refine s_lss ?_; refine AtR_nil ?_; refine At_cond_f rfl ?_; refine At_skip ?_; refine At_seq ?_)
  have kd := Kp.drew (S := No) (w := w1)
  let S : World → Prop := fun w' => Blk w' b 40 (0, 0) [.pointer (some ⟨b, 0, none⟩), .slice none 0 0]
  have hS : S w1.drew := hb1.kp kd fun h => h
  refine At_draw S rfl ?_
  (apply AtH_take 0 rfl (by decide +kernel) (by exact rfl); (focus (intro wx hx; unfold S at hx; exact x_move (by conv => lhs; whnf))); (focus (exact hS)))
  (apply AtH_take 1 rfl (by decide +kernel) (by exact rfl); (focus (intro wx hx; unfold S at hx; exact x_nilCheck rfl)); (focus (exact hS)))
  (apply AtH_take 2 rfl (by decide +kernel) (by exact rfl); (focus (intro wx hx; unfold S at hx; exact x_fieldAddrN rfl (by first | exact Nat.zero_add _ | exact Nat.add_zero _ | (simp only [Nat.reduceAdd] <;> rfl) | exact rfl))); (focus (exact hS)))
  (apply AtH_take 3 rfl (by decide +kernel) (by exact rfl); (focus (intro wx hx; unfold S at hx; exact x_load1 rfl (by assumption) rfl)); (focus (exact hS)))
  (apply AtH_take 5 rfl (by decide +kernel) (by exact rfl); (focus (intro wx hx; unfold S at hx; exact x_move (by conv => lhs; whnf))); (focus (exact hS)))
  (apply AtH_take 6 rfl (by decide +kernel) (by exact rfl); (focus (intro wx hx; unfold S at hx; exact x_nilCheck rfl)); (focus (exact hS)))
  (apply AtH_take 7 rfl (by decide +kernel) (by exact rfl); (focus (intro wx hx; unfold S at hx; exact x_fieldAddrN rfl (by first | exact Nat.zero_add _ | exact Nat.add_zero _ | (simp only [Nat.reduceAdd] <;> rfl) | exact rfl))); (focus (exact hS)))
  (apply AtH_take 8 rfl (by decide +kernel) (by exact rfl); (focus (intro wx hx; unfold S at hx; exact x_load1 rfl (by assumption) rfl)); (focus (exact hS)))
  (apply AtH_take 9 rfl (by decide +kernel) (by exact rfl); (focus (intro wx hx; unfold S at hx; exact x_len_slice rfl)); (focus (exact hS)))
  (apply AtH_take 11 rfl (by decide +kernel) (by exact rfl); (focus (intro wx hx; unfold S at hx; exact x_move (by conv => lhs; whnf))); (focus (exact hS)))
  -- ready now: 4 call cap(t12)
  refine AtH_take 4 rfl (by decide +kernel) (by exact rfl) (fun wx hx => x_cap_slice rfl) hS ?_
  by_cases h0 : m = 0
  · subst h0
    (apply AtH_take 10 rfl (by decide +kernel) (by exact rfl); (focus (intro wx hx; unfold S at hx; exact x_sub64 rfl rfl (by omega) (by omega))); (focus (exact hS)))
    (apply AtH_bool 12 rfl (by decide +kernel) (by exact rfl); (focus (intro wx hx; unfold S at hx; exact x_lss rfl rfl)); (focus (exact decide_eq_false (by omega))); (focus (exact hS)))
    refine AtH_done (by decide +kernel) ?_
    (refine At_cond_f rfl ?_; refine At_skip ?_)
    refine At_end0 Tryd.func29 rfl ?_
    exact ⟨rfl, ⟨hB, _, none, 0, hS, .inr rfl, Own.nil _ _ _, fun j hj => by simp [blkOf] at hj⟩, k1.trans (kd.mono fun j h => h.elim)⟩
  · skip
    (apply AtH_take 10 rfl (by decide +kernel) (by exact rfl); (focus (intro wx hx; unfold S at hx; exact x_sub64 rfl rfl (by omega) (by omega))); (focus (exact hS)))
    (apply AtH_bool 12 rfl (by decide +kernel) (by exact rfl); (focus (intro wx hx; unfold S at hx; exact x_lss rfl rfl)); (focus (exact decide_eq_true (by omega))); (focus (exact hS)))
    refine AtH_done (by decide +kernel) ?_
    (refine At_cond_t rfl ?_; refine At_region ?_; refine s_mv ?_; refine s_mv ?_)
    refine s_call x_call (gr_calls B b m _ hB hS hm) ?_
    rintro _ w2 ⟨rfl, h2, k2⟩
    refine ⟨_, rfl, ?_⟩
    (refine AtR_nil ?_)
    refine At_end0 Tryd.func29 rfl ?_
    exact ⟨rfl, h2, (k1.trans (kd.mono fun j h => h.elim)).trans k2⟩
end Go.Proofs.YtgobmphkakmdmaaDoor
