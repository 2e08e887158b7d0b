/- The law MtreeActs. | The law MtreeActs, its arguments opened. -/
import Derived.Test.YtfngacepjcdlnaaDoorMNo
import Derived.Test.YtfngacepjcdlnaaDoorMNb
import Derived.Test.YtfngacepjcdlnaaDoorMKb
set_option linter.unusedVariables false
namespace Go.Proofs.YtfngacepjcdlnaaDoor
open Go Go.Kx Go.Kr Go.Mt
set_option maxRecDepth 100000 in
set_option maxHeartbeats 64000000 in
theorem mtreeActs_row (W : World) (hC : ∃ fz, Blk W 1 243 fz (ints .u64 (ws kSha))) (room : Int) (hroom : -9223372036854775808 ≤ room ∧ room ≤ 9223372036854775807) (a : Option Addr) (len cap : Nat) (acs : List ActT) (hs : SlT W a len cap acs (fun b => b < W.heap.size)) :
    Calls Tryd.prog 13 #[.int .i64 room, .slice a len cap] W fun e w' => e = .returned (.bool true) ∧ RowKit.Below W.heap.size W w' := by
  have hCk : ∀ {w'}, Kp No W w' → ∃ fz, Blk w' 1 243 fz (ints .u64 (ws kSha)) := fun k => by obtain ⟨fz, hc⟩ := hC; exact ⟨fz, hc.kp k fun h => h⟩
  have hC1 : 1 < W.heap.size := by obtain ⟨fz, hc⟩ := hC; exact hc.lt
  have hle := hs.le
  have hmx := hs.max
  refine calls_at (n := 157) Tryd.func13 rfl rfl (by simp) ?_
  (refine At_seq ?_; refine At_region ?_; refine s_as ?_; refine AtR_nil ?_; refine At_seq ?_; refine At_seq ?_; refine At_region ?_)
  refine s_call x_call (awake16_calls _ hC) ?_
  rintro _ w1 ⟨rfl, K1⟩
  refine ⟨_, rfl, ?_⟩
  by_cases hs2 : 12 < len
  · (refine s_nt ?_; refine s_mv ?_; refine s_yes rfl rfl rfl rfl ?_; refine g_mv ?_; refine s_yes rfl rfl rfl rfl ?_; refine g_ln ?_; refine s_yes rfl rfl rfl rfl ?_; refine g_gtr ?_; refine s_pf ?_; refine AtR_nil ?_; refine At_cond_t rfl ?_; refine At_seq ?_; refine At_region ?_)
    refine s_call x_call (awake16_calls _ (hCk K1)) ?_
    rintro _ w2 ⟨rfl, k2⟩
    refine ⟨_, rfl, ?_⟩
    (refine s_as ?_; refine AtR_nil ?_)
    refine At_ret1 Tryd.func13 rfl (by conv => lhs; whnf) ?_
    exact ⟨rfl, Kp.below (K1.trans k2)⟩
  obtain ⟨v1, v2, v3, v4⟩ : (room.tmod 60 + 60) % 60 = (wrapN room 60 : Int) ∧ wrapN room 60 < 60 ∧ -(60 : Int) < room.tmod 60 ∧ room.tmod 60 < 60 := by
    obtain ⟨h1, h2, h3, h4⟩ : (room.tmod 60 + 60).tmod 60 = (wrapN room 60 : Int) ∧ wrapN room 60 < 60 ∧ -(60 : Int) < room.tmod 60 ∧ room.tmod 60 < 60 := wrapN_val (m := 60) (by omega)
    exact ⟨by rw [← h1, rem_nn (a := room.tmod 60 + 60) (by omega)], h2, h3, h4⟩
  generalize wrapN room 60 = R0 at v1 v2
  (refine s_nt ?_; refine s_mv ?_; refine s_yes rfl rfl rfl rfl ?_; refine g_mv ?_; refine s_yes rfl rfl rfl rfl ?_; refine g_ln ?_; refine s_yes rfl rfl rfl rfl ?_; refine g_gtr ?_; refine s_pf ?_; refine AtR_nil ?_; refine At_cond_f rfl ?_; refine At_skip ?_; refine At_seq ?_; refine At_region ?_; refine s_mv ?_)
  refine s_val (x_rem rfl rfl (by omega)) ?_
  (refine s_ad ?_; refine s_rm ?_; refine s_ad ?_)
  rw [v1]
  skip
  obtain ⟨R, hR⟩ : ∃ R, R = 1 + R0 := ⟨_, rfl⟩
  rw [show (1 : Int) + (R0 : Int) = (R : Int) by omega]
  refine s_val (x_build rfl (built51 (R : Int))) ?_
  refine AtR_go rfl (AtG_box rfl fun sp w2 hsp e2 => ?_)
  have SP : Blk w2 sp 51 (0, 0) [.slice none 0 0, .slice none 0 0, .int .i64 (R : Int)] := e2.blk
  have k2 : Kp No w1 w2 := e2.kp (.inr (by omega))
  have hst2 := st_new SP (by omega)
  clear e2
  have lsp := SP.lt
  have z1 := K1.size
  have z2 := k2.size
  (refine s_as ?_; refine AtR_nil ?_; refine At_seq ?_; refine At_region ?_; refine s_mv ?_)
  refine AtR_go rfl (AtG_buildSlice1 (ops := [_, _, _]) rfl rfl (by omega) rfl rfl rfl fun b10 w3 hb10 e3 => ?_)
  have B10 : Blk w3 b10 5 (0, 0) (ints .u8 (bs8 [107, 101, 121])) := e3.blk
  have k3 : Kp No w2 w3 := e3.kp (.inr (by omega))
  clear e3
  have l10 := B10.lt
  refine AtR_go rfl (G_val (r_conv_same rfl B10) ?_)
  rintro _ w4 ⟨rfl, ⟨f10, B10a⟩, k4⟩
  refine AtR_go rfl (AtG_buildSlice1 (ops := [_, _, _, _]) rfl rfl (by omega) rfl rfl rfl fun b12 w5 hb12 e5 => ?_)
  have B12 : Blk w5 b12 5 (0, 0) (ints .u8 (bs8 [110, 97, 109, 101])) := e5.blk
  have k5 : Kp No w4 w5 := e5.kp (.inr (by omega))
  clear e5
  refine AtR_go rfl (G_val (r_conv_same rfl B12) ?_)
  rintro _ w6 ⟨rfl, ⟨f12, B12a⟩, k6⟩
  have z3 := k3.size
  have z4 := k4.size
  have z5 := k5.size
  have z6 := k6.size
  have K4 : Kp No w2 w4 := k3.trans' k4 (by rintro j rfl; right; omega)
  have K6 : Kp No w2 w6 := (K4.trans k5).trans' k6 (by rintro j rfl; right; omega)
  have h1012 : b10 ≠ b12 := by omega
  have B10b := (B10a.kp k5 fun h => h).kp k6 h1012
  have KW6 := (K1.trans k2).trans K6
  refine s_call x_call (grove_wood sp [107, 101, 121] [110, 97, 109, 101] (some ⟨b10, 0, none⟩) (some ⟨b12, 0, none⟩) 3 4 _ (hst2.kpn K6) (hCk KW6) (by omega) ((B10b.sl (m := 3) rfl (by omega)).e (D := fun _ => True) fun _ _ => trivial) (fun h => by cases h) ((B12a.sl (m := 4) rfl (by omega)).e (D := fun _ => True) fun _ _ => trivial) (fun h => by cases h) ⟨by simp, by simp⟩) ?_
  generalize ([107, 101, 121] : List UInt8) = key
  generalize ([110, 97, 109, 101] : List UInt8) = name
  rintro _ w7 ⟨g, bo, Dg, rfl, hW7, hDg, k7⟩
  refine ⟨_, rfl, ?_⟩
  (refine s_as ?_; refine AtR_nil ?_; refine At_seq ?_; refine At_seq ?_; refine At_region ?_; refine s_mv ?_; refine s_eqlp ?_; refine AtR_nil ?_; refine At_cond_f rfl ?_; refine At_skip ?_; refine At_seq ?_; refine At_region ?_)
  refine AtR_go rfl (AtG_alloc fun b7 w8 hb7 e8 => ?_)
  have B7 : Blk w8 b7 40 (0, 0) (trC Pr.zero ((0 : Nat) : Int)) := e8.blk
  have k8 : Kp No w7 w8 := e8.kp (.inr (by omega))
  have K8 := (KW6.trans k7).trans k8
  have hW8 := hW7.kpn k8
  have z7 := k7.size
  have ng : ¬ Dg b7 := fun hd => by have := (hW7.sep _ hd).2; omega
  clear e8
  have L0 : LawAt key name W w8 g sp bo b7 Dg R 0 ⟨Pr.zero, 0, St.new R, [], none, 0⟩ :=
    ⟨told_new key name R, B7, ⟨_, hW8, by rintro j rfl; exact ⟨by omega, by omega, fun h => by simp [blkOf] at h⟩⟩, Own.nil _ _ _, fun j hj => by simp [blkOf] at hj, K8, by omega, by omega, ng⟩
  clear B7 hW8 hW7 hDg K8 k8 k7 KW6 K6 K4 k6 k5 k4 k3 k2 SP hst2 B10 B10a B10b B12 B12a z7 z6 z5 z4 z3 z2 z1 hb7 hb12 hb10 hsp l10 lsp K1 v1 v2 v3 v4 hR h1012
  (refine AtR_nil ?_; refine At_seq ?_; refine At_region ?_; refine s_as ?_; refine AtR_nil ?_; refine At_seq ?_; refine At_seq ?_; refine At_region ?_; refine s_as ?_; refine AtR_nil ?_; refine At_block ?_)
  refine At_while (fun s : Nat × LS => [(1, .slice a len cap), (5, .pointer (some ⟨sp, 0, none⟩)), (6, .pointer (some ⟨g, 0, none⟩)), (7, .pointer (some ⟨b7, 0, none⟩)), (8, .slice s.2.al s.2.l.length s.2.cl), (9, .int .i64 (s.1 : Int))])
    (fun s w' => s.1 ≤ len ∧ LawAt key name W w' g sp bo b7 Dg R s.1 s.2) (fun s => len - s.1) (0, ⟨Pr.zero, 0, St.new R, [], none, 0⟩) ⟨rfl, rfl, rfl, rfl, rfl, rfl, trivial⟩ ⟨by omega, L0⟩ ?_
  clear L0
  rintro ⟨i, s⟩ w9 junk ⟨hi, L⟩ again
  simp only at hi L again ⊢
  by_cases hlt : i < len
  rotate_left
  · have hie : i = len := by omega
    clear again
    (refine At_seq ?_; refine At_seq ?_; refine At_region ?_; refine s_mv ?_; refine s_mv ?_; refine s_ln ?_; refine s_lss ?_; refine AtR_nil ?_; refine At_cond_f rfl ?_; refine At_exit rfl ?_; refine At_seq ?_; refine At_region ?_; refine s_as ?_; refine AtR_nil ?_)
    refine At_ret1 Tryd.func13 rfl (by conv => lhs; whnf) ?_
    exact ⟨rfl, L.K.below⟩
  obtain ⟨b, off, rfl, ⟨kd, m, c⟩, hget, hsg, hbW, hwf⟩ := (hs.kpn L.K).get hlt
  obtain ⟨u, rfl⟩ := octet_in2 hwf.c
  have hm := hwf.m
  have hkd := hwf.kind
  simp only at hm hkd
  replace hsg : Seg w9 b (off + i * 3) [.int .i64 kd, .int .i64 m, .int .u8 (ub u)] := hsg
  (refine At_seq ?_; refine At_seq ?_; refine At_region ?_; refine s_mv ?_; refine s_mv ?_; refine s_ln ?_; refine s_lss ?_; refine AtR_nil ?_; refine At_cond_t rfl ?_; refine At_skip ?_; refine At_seq ?_; refine At_block ?_; refine At_seq ?_; refine At_region ?_; refine s_mv ?_; refine s_mv ?_)
  refine s_val (x_indexAddr rfl rfl (by omega) (by omega)) ?_
  rw [Int.toNat_natCast]
  refine s_val (x_load_segN rfl hsg rfl) ?_
  refine AtR_go rfl (AtG_alloc fun bA w10 hbA e10 => ?_)
  refine AtR_go rfl (G_skip (r_storeN (cs := z104) (vs := [.int .i64 kd, .int .i64 m, .int .u8 (ub u)]) rfl rfl e10.blk rfl (Nat.le_refl _) rfl) fun w11 e11 => ?_)
  have BA : Blk w11 bA 104 (0, 0) [.int .i64 kd, .int .i64 m, .int .u8 (ub u)] := e11.blk
  have K11 : Kp No w9 w11 := (e10.kp (S := No) (.inr (by omega))).trans' (e11.kp (S := fun j => j = bA) (.inl rfl)) (by rintro j rfl; right; omega)
  have hzz := (e10.kp (S := No) (.inr (by omega))).size
  clear e10 e11 hsg
  have L11 := L.kpn K11
  obtain ⟨Ds, hW9, hDs⟩ := L.wood
  have hW := hW9.kpn K11
  have hr := L.told.wf hW.stt.few.1
  have hl34 := trC_length hr (s.d : Int)
  have nD7 : ¬ Ds b7 := fun h => (hDs _ h).2.1 rfl
  have nDA : ¬ Ds bA := fun h => by have := hW9.stt.dlt _ h; omega
  have hn : i * R ≤ 300000 := by have := Nat.mul_le_mul (show i ≤ 12 by omega) L.room; omega
  have l7 := L11.bt.lt
  have lA := BA.lt
  have zW := L11.K.size
  have n7A : b7 ≠ bA := by have := L.bt.lt; omega
  have hlB : s.l.length ≤ 60 := by have := L.told.few.1; have := L.room; omega
  -- behind a change: what was saved lies in b
  have fin20 : ∀ {V : List Value} {st2 : St} {w6 w7 : World} {b12 : Nat} {Ds' : Nat → Prop}, Wood w6 g sp bo key name st2 Ds' Dg → (∀ j, Ds' j → Ds j ∨ w11.heap.size ≤ j ∧ j ≠ b12) → w11.heap.size ≤ b12 → Kp Ds w11 w6 → Eff w6 w7 b12 (.cells V.toArray 40 (0, 0)) →
      Blk w7 b12 40 (0, 0) V ∧ Blk w7 b7 40 (0, 0) (trC s.r (s.d : Int)) ∧ Blk w7 bA 104 (0, 0) [.int .i64 kd, .int .i64 m, .int .u8 (ub u)] ∧ Own w7 174 2 s.al s.l.length s.cl (blC s.l) ∧ (∃ Ds', Wood w7 g sp bo key name st2 Ds' Dg ∧ ∀ j, Ds' j → W.heap.size ≤ j ∧ j ≠ b7 ∧ ¬ blkOf s.al j ∧ j ≠ b12 ∧ j ≠ bA) ∧ Kp No W w7 ∧ w11.heap.size ≤ b12 := by
    intro V st2 w6 w7 b12 Ds' h6 hD hb k6 e
    have k7 : Kp (fun j => j = b12) w6 w7 := e.kp (.inl rfl)
    have hol := L11.own.lt
    have hds : ∀ j, Ds j → j < w9.heap.size := fun j hj => hW9.stt.dlt j hj
    have z11 := K11.size
    have n12 : ¬ Ds' b12 := fun hd => (hD _ hd).elim (fun h => by have := hds _ h; omega) fun h => h.2 rfl
    refine ⟨e.blk, (L11.bt.kp k6 nD7).kp k7 (by omega), (BA.kp k6 nDA).kp k7 (by omega), (L11.own.kp k6 fun j hj hd => (hDs j hd).2.2 hj).kp k7 (fun j hj e => by subst e; have := hol _ hj; omega), ⟨Ds', h6.kp k7 (by
      rintro j rfl
      exact ⟨n12, fun hg => by have := (hW9.sep _ hg).2; omega⟩), fun j hj => ?_⟩, (L11.K.trans' k6 fun j hj => .inr (hDs j hj).1).trans' k7 (by rintro j rfl; right; omega), hb⟩
    rcases hD j hj with h | ⟨h, h'⟩
    · obtain ⟨q1, q2, q3⟩ := hDs j h
      exact ⟨q1, q2, q3, fun e => by subst e; exact n12 hj, fun e => by subst e; exact nDA h⟩
    · exact ⟨by omega, by omega, fun hb => by have := hol _ hb; omega, h', by omega⟩
  (refine AtR_nil ?_; refine At_seq ?_; refine At_region ?_; refine s_fa ?_; refine s_ld ?_)
  refine s_call x_call (at53_calls m _ hm) ?_
  rintro _ _ ⟨rfl, rfl⟩
  refine ⟨_, rfl, ?_⟩
  have hkr := atZ_range hm
  generalize atZ m = k at hkr ⊢
  (refine s_as ?_; refine AtR_nil ?_; refine At_seq ?_; refine At_seq ?_; refine At_region ?_; refine s_fa ?_; refine s_ld ?_; refine AtR_nil ?_)
  refine At_meet (σ := LS) (fun s' => [(1, .slice (some ⟨b, off, none⟩) len cap), (5, .pointer (some ⟨sp, 0, none⟩)), (6, .pointer (some ⟨g, 0, none⟩)), (7, .pointer (some ⟨b7, 0, none⟩)), (8, .slice s'.al s'.l.length s'.cl), (9, .int .i64 (i : Int))])
    (fun s' w' => LawAt key name W w' g sp bo b7 Dg R (i + 1) s') ?_ ?_
  · rintro s' w12 junk2 L'
    obtain ⟨Ds', hW', _⟩ := L'.wood
    have hr' := L'.told.wf hW'.stt.few.1
    have hRm := L'.room
    (refine At_seq ?_; refine At_region ?_; refine s_mv ?_; refine s_mv ?_)
    refine s_val (x_load_all rfl L'.bt (trC_length hr' (s'.d : Int))) ?_
    (refine s_mv ?_)
    refine s_call x_call (same59_calls g sp bo key name s'.st s'.r s'.d s'.l R (i + 1) s'.al s'.cl _ L'.told (by omega) hW' L'.own) ?_
    rintro _ w13 ⟨rfl, k13⟩
    refine ⟨_, rfl, ?_⟩
    (refine s_nt ?_; refine AtR_nil ?_; refine At_cond_f rfl ?_; refine At_skip ?_; refine At_inBlock ?_; refine At_region ?_; refine s_mv ?_; refine s_ad ?_; refine s_as ?_; refine AtR_nil ?_)
    exact again (i + 1, s') _ _ ⟨rfl, rfl, rfl, rfl, rfl, rfl, trivial⟩ ⟨hlt, L'.kpn k13⟩ (by simp only; omega)
  intro join
  by_cases c0 : kd = 0
  · obtain ⟨V, cd, st2, hV, hV1, hcalls, hcase⟩ := law_put hW L.told L.room hn k hkr u
    (refine At_block ?_; refine At_seq ?_; refine At_region ?_; refine s_eql ?_; refine s_as ?_; refine AtR_nil ?_; refine At_cond_t rfl ?_; refine At_seq ?_)
    refine At_meet (σ := Nat) (fun b12 => [(1, .slice (some ⟨b, off, none⟩) len cap), (5, .pointer (some ⟨sp, 0, none⟩)), (6, .pointer (some ⟨g, 0, none⟩)), (7, .pointer (some ⟨b7, 0, none⟩)), (8, .slice s.al s.l.length s.cl), (9, .int .i64 (i : Int)), (10, .pointer (some ⟨bA, 0, none⟩)), (11, .int .i64 k), (12, .pointer (some ⟨b12, 0, none⟩)), (13, .int .i64 (cd : Int))])
      (fun b12 w7 => Blk w7 b12 40 (0, 0) V ∧ Blk w7 b7 40 (0, 0) (trC s.r (s.d : Int)) ∧ Blk w7 bA 104 (0, 0) [.int .i64 kd, .int .i64 m, .int .u8 (ub u)] ∧ Own w7 174 2 s.al s.l.length s.cl (blC s.l) ∧ (∃ Ds', Wood w7 g sp bo key name st2 Ds' Dg ∧ ∀ j, Ds' j → W.heap.size ≤ j ∧ j ≠ b7 ∧ ¬ blkOf s.al j ∧ j ≠ b12 ∧ j ≠ bA) ∧ Kp No W w7 ∧ w11.heap.size ≤ b12) ?_ ?_
    rotate_left
    · intro join1
      have kdr := Kp.drew (S := No) (w := w11)
      let S : World → Prop := fun w' => Blk w' b7 40 (0, 0) (trC s.r (s.d : Int)) ∧ Blk w' bA 104 (0, 0) [.int .i64 kd, .int .i64 m, .int .u8 (ub u)]
      have hSk : ∀ {S0 : Nat → Prop} {w w'}, S w → Kp S0 w w' → ¬ S0 b7 → ¬ S0 bA → S w' := fun h k h1 h2 => ⟨h.1.kp k h1, h.2.kp k h2⟩
      have hS : S w11.drew := hSk (w := w11) ⟨L11.bt, BA⟩ kdr id id
      have zd := kdr.size
      refine At_draw S rfl ?_
      (apply AtH_take 0 rfl (by decide +kernel) (by exact rfl); (focus (intro wx hx; skip; exact x_move (by conv => lhs; whnf))); (focus (exact hS)))
      (apply AtH_take 2 rfl (by decide +kernel) (by exact rfl); (focus (intro wx hx; skip; exact x_move (by conv => lhs; whnf))); (focus (exact hS)))
      (apply AtH_take 3 rfl (by decide +kernel) (by exact rfl); (focus (intro wx hx; skip; exact x_fieldAddrN rfl (by first | exact Nat.zero_add _ | exact Nat.add_zero _ | (simp only [Nat.reduceAdd] <;> rfl) | exact rfl))); (focus (exact hS)))
      -- ready now: 1 load 40 t7, 4 load 5 t103, 10 alloc 40
      refine AtH_take 1 rfl (by decide +kernel) (by exact rfl) (fun wx hx => x_load_all rfl hx.1 hl34) hS ?_
      refine AtH_take 4 rfl (by decide +kernel) (by exact rfl) (fun wx hx => x_load1 rfl hx.2 rfl) hS ?_
      refine AtH_pairX 10 5 rfl rfl (by first | exact .inl (by decide +kernel) | exact .inr (by decide +kernel)) (by exact rfl) (by exact rfl) r_alloc x_call (block_calls u _) ?_ ?_
      · rintro _ w12 ⟨b12, rfl, hb12, e12⟩
        have B12 : Blk w12 b12 40 (0, 0) z40 := e12.blk
        have k12 : Kp No w11.drew w12 := e12.kp (.inr (by omega))
        have hS12 := hSk hS k12 id id
        refine ⟨hS12, ?_⟩
        clear hS e12
        have hS := hS12
        refine AtH_call 5 rfl (by decide +kernel) (by exact rfl) x_call  (block_calls u _) ?_
        rintro _ w13 ⟨bb, rfl, hob, hbb, k13⟩
        have hS13 := hSk hS k13 id id
        refine ⟨_, rfl, hS13, ?_⟩
        clear hS
        have hS := hS13
        have K13 := (kdr.trans k12).trans k13
        have z12 := k12.size
        have z13 := k13.size
        have l12 := B12.lt
        refine AtH_call 6 rfl (by decide +kernel) (by exact rfl) x_call  (hcalls w13 bb K13 hob (by omega)) ?_
        rintro _ w14 ⟨rfl, Ds', hW14, hD14, k14⟩
        have hS14 := hSk hS k14 nD7 nDA
        refine ⟨_, rfl, hS14, ?_⟩
        clear hS
        have hS := hS14
        have n12 : ¬ Ds b12 := fun hd => by have := hW9.stt.dlt _ hd; have := K11.size; omega
        (apply AtH_take 7 rfl (by decide +kernel) (by exact rfl); (focus (intro wx hx; skip; exact x_move (by conv => lhs; whnf))); (focus (exact hS)))
        (apply AtH_take 8 rfl (by decide +kernel) (by exact rfl); (focus (intro wx hx; skip; exact x_extract rfl rfl)); (focus (exact hS)))
        (apply AtH_take 9 rfl (by decide +kernel) (by exact rfl); (focus (intro wx hx; skip; exact x_extract rfl rfl)); (focus (exact hS)))
        -- ready now: 11 store 40 t12 t107
        refine H_skip 11 rfl (by decide +kernel) (by exact rfl) (r_store_all (s := 34) (vs := V) rfl rfl ((B12.kp k13 fun h => h).kp k14 n12) hV rfl hV1) ?_
        intro w15 e15
        have hS15 := hSk hS (e15.kp (S := fun j => j = b12) (.inl rfl)) (by omega) (by omega)
        refine ⟨hS15, ?_⟩
        clear hS
        have hS := hS15
        (apply AtH_take 12 rfl (by decide +kernel) (by exact rfl); (focus (intro wx hx; skip; exact x_assign (by conv => lhs; whnf))); (focus (exact hS)))
        refine AtH_done (by decide +kernel) ?_
        exact join1 b12 _ _ ⟨rfl, rfl, rfl, rfl, rfl, rfl, rfl, rfl, rfl, rfl, trivial⟩ (fin20 hW14 (fun j hj => (hD14 j hj).imp id fun h => ⟨by omega, by omega⟩) (by omega) ((K13.mono fun _ h => h.elim).trans k14) e15)
      · rintro _ w12 ⟨bb, rfl, hob, hbb, k12⟩
        have hS12 := hSk hS k12 id id
        refine ⟨_, rfl, hS12, ?_⟩
        clear hS
        have hS := hS12
        have z12 := k12.size
        refine AtH_pairX 10 6 rfl rfl (by first | exact .inl (by decide +kernel) | exact .inr (by decide +kernel)) (by exact rfl) (by exact rfl) r_alloc x_call (hcalls w12 bb (kdr.trans k12) hob (by omega)) ?_ ?_
        · rintro _ w13 ⟨b12, rfl, hb12, e13⟩
          have B12 : Blk w13 b12 40 (0, 0) z40 := e13.blk
          have k13 : Kp No w12 w13 := e13.kp (.inr (by omega))
          have hS13 := hSk hS k13 id id
          refine ⟨hS13, ?_⟩
          clear hS e13
          have hS := hS13
          have K13 := (kdr.trans k12).trans k13
          have z13 := k13.size
          have l12 := B12.lt
          refine AtH_call 6 rfl (by decide +kernel) (by exact rfl) x_call  (hcalls w13 bb K13 (hob.kp k13 fun _ _ h => h) (by omega)) ?_
          rintro _ w14 ⟨rfl, Ds', hW14, hD14, k14⟩
          have hS14 := hSk hS k14 nD7 nDA
          refine ⟨_, rfl, hS14, ?_⟩
          clear hS
          have hS := hS14
          have n12 : ¬ Ds b12 := fun hd => by have := hW9.stt.dlt _ hd; have := K11.size; omega
          (apply AtH_take 7 rfl (by decide +kernel) (by exact rfl); (focus (intro wx hx; skip; exact x_move (by conv => lhs; whnf))); (focus (exact hS)))
          (apply AtH_take 8 rfl (by decide +kernel) (by exact rfl); (focus (intro wx hx; skip; exact x_extract rfl rfl)); (focus (exact hS)))
          (apply AtH_take 9 rfl (by decide +kernel) (by exact rfl); (focus (intro wx hx; skip; exact x_extract rfl rfl)); (focus (exact hS)))
          -- ready now: 11 store 40 t12 t107
          refine H_skip 11 rfl (by decide +kernel) (by exact rfl) (r_store_all (s := 34) (vs := V) rfl rfl (B12.kp k14 n12) hV rfl hV1) ?_
          intro w15 e15
          have hS15 := hSk hS (e15.kp (S := fun j => j = b12) (.inl rfl)) (by omega) (by omega)
          refine ⟨hS15, ?_⟩
          clear hS
          have hS := hS15
          (apply AtH_take 12 rfl (by decide +kernel) (by exact rfl); (focus (intro wx hx; skip; exact x_assign (by conv => lhs; whnf))); (focus (exact hS)))
          refine AtH_done (by decide +kernel) ?_
          exact join1 b12 _ _ ⟨rfl, rfl, rfl, rfl, rfl, rfl, rfl, rfl, rfl, rfl, trivial⟩ (fin20 hW14 (fun j hj => (hD14 j hj).imp id fun h => ⟨by omega, by omega⟩) (by omega) ((K13.mono fun _ h => h.elim).trans k14) e15)
        · rintro _ w13 ⟨rfl, Ds', hW13, hD13, k13⟩
          have hS13 := hSk hS k13 nD7 nDA
          refine ⟨_, rfl, hS13, ?_⟩
          clear hS
          have hS := hS13
          have z13 := k13.size
          (apply AtH_take 7 rfl (by decide +kernel) (by exact rfl); (focus (intro wx hx; skip; exact x_move (by conv => lhs; whnf))); (focus (exact hS)))
          (apply AtH_take 8 rfl (by decide +kernel) (by exact rfl); (focus (intro wx hx; skip; exact x_extract rfl rfl)); (focus (exact hS)))
          (apply AtH_take 9 rfl (by decide +kernel) (by exact rfl); (focus (intro wx hx; skip; exact x_extract rfl rfl)); (focus (exact hS)))
          -- ready now: 10 alloc 40
          refine H_val 10 rfl (by decide +kernel) (by exact rfl) r_alloc ?_
          rintro _ w14 ⟨b12, rfl, hb12, e14⟩
          have B12 : Blk w14 b12 40 (0, 0) z40 := e14.blk
          have k14 : Kp No w13 w14 := e14.kp (.inr (by omega))
          have hS14 := hSk hS k14 id id
          refine ⟨hS14, ?_⟩
          clear hS e14
          have hS := hS14
          -- ready now: 11 store 40 t12 t107
          refine H_skip 11 rfl (by decide +kernel) (by exact rfl) (r_store_all (s := 34) (vs := V) rfl rfl B12 hV rfl hV1) ?_
          intro w15 e15
          have hS15 := hSk hS (e15.kp (S := fun j => j = b12) (.inl rfl)) (by omega) (by omega)
          refine ⟨hS15, ?_⟩
          clear hS
          have hS := hS15
          (apply AtH_take 12 rfl (by decide +kernel) (by exact rfl); (focus (intro wx hx; skip; exact x_assign (by conv => lhs; whnf))); (focus (exact hS)))
          refine AtH_done (by decide +kernel) ?_
          exact join1 b12 _ _ ⟨rfl, rfl, rfl, rfl, rfl, rfl, rfl, rfl, rfl, rfl, trivial⟩ (fin20 (hW13.kpn k14) (fun j hj => (hD13 j hj).imp id fun h => ⟨by omega, by have := hW13.stt.dlt _ hj; omega⟩) (by omega) (((kdr.trans k12).mono fun _ h => h.elim).trans (k13.trans (k14.mono fun _ h => h.elim))) e15)
    rintro b12 w12 junk3 ⟨B12, B7', BA', ho', ⟨Ds', hW', hD'⟩, K', hb12⟩
    have l12 := B12.lt
    rcases hcase with ⟨hbad, rfl, rfl⟩ | ⟨kn, rfl, hkn, ⟨rfl, r2, d2, hr2, rfl, hT2⟩ | ⟨rfl, hT2⟩⟩
    · have LW : LawAt key name W w12 g sp bo b7 Dg R (i + 1) s := ⟨L.told.mono (Nat.le_succ i), B7', ⟨Ds', hW', fun j hj => ⟨(hD' j hj).1, (hD' j hj).2.1, (hD' j hj).2.2.1⟩⟩, ho', L.ofr, K', L.room, L.n7, L.ng⟩
      by_cases hneg : k < 0
      · (refine At_seq ?_; refine At_seq ?_; refine At_region ?_; refine s_mv ?_; refine s_lss ?_; refine s_mv ?_; refine s_no rfl rfl rfl rfl ?_; refine s_no rfl rfl rfl rfl ?_; refine s_no rfl rfl rfl rfl ?_; refine s_pt ?_; refine AtR_nil ?_; refine At_cond_t rfl ?_; refine At_seq ?_; refine At_seq ?_; refine At_region ?_; refine s_mv ?_; refine s_neq ?_; refine AtR_nil ?_; refine At_cond_f rfl ?_; refine At_skip ?_; refine At_exit rfl ?_; refine At_region ?_; refine s_mv ?_; refine s_ad ?_; refine s_as ?_; refine AtR_nil ?_)
        exact again (i + 1, s) _ _ ⟨rfl, rfl, rfl, rfl, rfl, rfl, trivial⟩ ⟨hlt, LW⟩ (by simp only; omega)
      · (refine At_seq ?_; refine At_seq ?_; refine At_region ?_; refine s_mv ?_; refine s_lss ?_; refine s_mv ?_; refine s_yes rfl rfl rfl rfl ?_; refine g_mv ?_)
        refine s_yes rfl rfl rfl rfl ?_
        refine g_call x_call (roomR_calls 5 _ (by omega)) ?_
        rintro _ _ ⟨rfl, rfl⟩
        refine ⟨_, rfl, ?_⟩
        rw [show roomZ 5 = 537824 from rfl]
        (refine s_yes rfl rfl rfl rfl ?_; refine g_geq ?_; refine s_pf ?_; refine AtR_nil ?_; refine At_cond_t rfl ?_; refine At_seq ?_; refine At_seq ?_; refine At_region ?_; refine s_mv ?_; refine s_neq ?_; refine AtR_nil ?_; refine At_cond_f rfl ?_; refine At_skip ?_; refine At_exit rfl ?_; refine At_region ?_; refine s_mv ?_; refine s_ad ?_; refine s_as ?_; refine AtR_nil ?_)
        exact again (i + 1, s) _ _ ⟨rfl, rfl, rfl, rfl, rfl, rfl, trivial⟩ ⟨hlt, LW⟩ (by simp only; omega)
    · (refine At_seq ?_; refine At_seq ?_; refine At_region ?_; refine s_mv ?_; refine s_lss ?_; refine s_mv ?_; refine s_yes rfl rfl rfl rfl ?_; refine g_mv ?_)
      refine s_yes rfl rfl rfl rfl ?_
      refine g_call x_call (roomR_calls 5 _ (by omega)) ?_
      rintro _ _ ⟨rfl, rfl⟩
      refine ⟨_, rfl, ?_⟩
      rw [show roomZ 5 = 537824 from rfl]
      (refine s_yes rfl rfl rfl rfl ?_; refine g_geq ?_; refine s_pf ?_; refine AtR_nil ?_; refine At_cond_f rfl ?_; refine At_skip ?_; refine At_seq ?_; refine At_region ?_; refine s_mv ?_; refine s_eql ?_; refine AtR_nil ?_; refine At_cond_t rfl ?_)
      have kdr := Kp.drew (S := No) (w := w12)
      let S : World → Prop := fun w' => Blk w' b12 40 (0, 0) (trC r2 (d2 : Int)) ∧ Blk w' bA 104 (0, 0) [.int .i64 kd, .int .i64 m, .int .u8 (ub u)]
      have hSk : ∀ {S0 : Nat → Prop} {w w'}, S w → Kp S0 w w' → ¬ S0 b12 → ¬ S0 bA → S w' := fun h k h1 h2 => ⟨h.1.kp k h1, h.2.kp k h2⟩
      have hS : S w12.drew := hSk (w := w12) ⟨B12, BA'⟩ kdr id id
      have zd := kdr.size
      refine At_draw S rfl ?_
      (apply AtH_take 1 rfl (by decide +kernel) (by exact rfl); (focus (intro wx hx; skip; exact x_move (by conv => lhs; whnf))); (focus (exact hS)))
      (apply AtH_take 2 rfl (by decide +kernel) (by exact rfl); (focus (intro wx hx; skip; exact x_move (by conv => lhs; whnf))); (focus (exact hS)))
      (apply AtH_take 3 rfl (by decide +kernel) (by exact rfl); (focus (intro wx hx; skip; exact x_fieldAddrN rfl (by first | exact Nat.zero_add _ | exact Nat.add_zero _ | (simp only [Nat.reduceAdd] <;> rfl) | exact rfl))); (focus (exact hS)))
      -- ready now: 0 load 40 t12, 4 load 5 t123
      refine AtH_take 0 rfl (by decide +kernel) (by exact rfl) (fun wx hx => x_load_all rfl hx.1 hV) hS ?_
      refine AtH_take 4 rfl (by decide +kernel) (by exact rfl) (fun wx hx => x_load1 rfl hx.2 rfl) hS ?_
      refine AtH_call 5 rfl (by decide +kernel) (by exact rfl) x_call  (block_calls u _) ?_
      rintro _ w13 ⟨bb, rfl, hob, hbb, k13⟩
      have hS13 := hSk hS k13 id id
      refine ⟨_, rfl, hS13, ?_⟩
      clear hS
      have hS := hS13
      refine AtH_val 6 rfl (by decide +kernel) (by exact rfl) (x_conv_bs rfl (hob.sl.e (D := fun _ => True) fun _ _ => trivial)) hS ?_
      have K13 := kdr.trans k13
      refine AtH_call 7 rfl (by decide +kernel) (by exact rfl) x_call  (putLn_calls s.l kn (blockB u) s.al s.cl _ (ho'.kp K13 fun _ _ h => h) (by omega)) ?_
      rintro _ w14 ⟨a2, c2, rfl, ho2, hf2, k14⟩
      have hS14 := hSk hS k14 id id
      refine ⟨_, rfl, hS14, ?_⟩
      clear hS
      have hS := hS14
      have K14 := K13.trans k14
      have z13 := k13.size
      have z14 := k14.size
      have l7' := B7'.lt
      have hdl := hW'.stt.dlt
      refine H_skip 8 rfl (by decide +kernel) (by exact rfl) (r_store_all (s := 34) (vs := trC r2 (d2 : Int)) rfl rfl (B7'.kp K14 fun h => h) hV hl34 hV1) ?_
      intro w15 e15
      have k15 : Kp (fun j => j = b7) w14 w15 := e15.kp (.inl rfl)
      have hS15 := hSk hS k15 (by omega) (by omega)
      refine ⟨hS15, ?_⟩
      clear hS
      have hS := hS15
      (apply AtH_take 9 rfl (by decide +kernel) (by exact rfl); (focus (intro wx hx; skip; exact x_assign (by conv => lhs; whnf))); (focus (exact hS)))
      refine AtH_done (by decide +kernel) ?_
      skip
      refine At_inBlock ?_
      refine join ⟨r2, d2, st2, putF s.l kn (blockB u), a2, c2⟩ _ _ ⟨rfl, rfl, rfl, rfl, rfl, rfl, trivial⟩ ⟨hT2, e15.blk, ⟨Ds', (hW'.kpn K14).kp k15 (by rintro j rfl; exact ⟨fun h => (hD' _ h).2.1 rfl, L.ng⟩), fun j hj => ⟨(hD' j hj).1, (hD' j hj).2.1, fun hb => by have := hf2 _ hb; have := hdl _ hj; omega⟩⟩, ho2.kp k15 (fun j hj e => by subst e; have := hf2 _ hj; omega), fun j hj => ⟨by have := hf2 _ hj; omega, fun e => by subst e; have := hf2 _ hj; omega⟩, (K'.trans K14).trans' k15 (by rintro j rfl; right; exact L.n7), L.room, L.n7, L.ng⟩
    · (refine At_seq ?_; refine At_seq ?_; refine At_region ?_; refine s_mv ?_; refine s_lss ?_; refine s_mv ?_; refine s_yes rfl rfl rfl rfl ?_; refine g_mv ?_)
      refine s_yes rfl rfl rfl rfl ?_
      refine g_call x_call (roomR_calls 5 _ (by omega)) ?_
      rintro _ _ ⟨rfl, rfl⟩
      refine ⟨_, rfl, ?_⟩
      rw [show roomZ 5 = 537824 from rfl]
      (refine s_yes rfl rfl rfl rfl ?_; refine g_geq ?_; refine s_pf ?_; refine AtR_nil ?_; refine At_cond_f rfl ?_; refine At_skip ?_; refine At_seq ?_; refine At_region ?_; refine s_mv ?_; refine s_eql ?_; refine AtR_nil ?_; refine At_cond_f rfl ?_; refine At_seq ?_; refine At_region ?_; refine s_mv ?_; refine s_neq ?_; refine AtR_nil ?_; refine At_cond_f rfl ?_; refine At_skip ?_)
      refine At_inBlock ?_
      exact join ⟨s.r, s.d, st2, s.l, s.al, s.cl⟩ _ _ ⟨rfl, rfl, rfl, rfl, rfl, rfl, trivial⟩ ⟨hT2, B7', ⟨Ds', hW', fun j hj => ⟨(hD' j hj).1, (hD' j hj).2.1, (hD' j hj).2.2.1⟩⟩, ho', L.ofr, K', L.room, L.n7, L.ng⟩
  by_cases c1 : kd = 1
  · obtain ⟨V, cd, st2, hV, hV1, hcalls, hcase⟩ := law_cut hW L.told L.room hn k hkr
    (refine At_block ?_; refine At_seq ?_; refine At_region ?_; refine s_eql ?_; refine s_as ?_; refine AtR_nil ?_; refine At_cond_f rfl ?_; refine At_seq ?_; refine At_region ?_; refine s_eql ?_; refine s_as ?_; refine AtR_nil ?_; refine At_cond_t rfl ?_; refine At_seq ?_; refine At_region ?_; refine s_mv ?_)
    refine s_val (x_load_all rfl L11.bt hl34) ?_
    (refine s_mv ?_)
    refine s_call x_call hcalls ?_
    rintro _ w12 ⟨rfl, Dc, hW12, hD12, k12⟩
    refine ⟨_, rfl, ?_⟩
    have z12 := k12.size
    (refine s_mv ?_; refine s_ex ?_; refine s_ex ?_)
    refine AtR_go rfl (AtG_alloc fun b14 w13 hb14 e13 => ?_)
    have B14 : Blk w13 b14 40 (0, 0) z40 := e13.blk
    have k13 : Kp No w12 w13 := e13.kp (.inr (by omega))
    refine AtR_go rfl (G_skip (r_store_all (s := 34) (vs := V) rfl rfl B14 hV rfl hV1) fun w14 e14 => ?_)
    obtain ⟨B12, B7', BA', ho', ⟨Ds', hW', hD'⟩, K', hb12⟩ := fin20 (hW12.kpn k13) (fun j hj => (hD12 j hj).imp id fun h => ⟨by omega, by have := hW12.stt.dlt _ hj; omega⟩) (by omega) (k12.trans (k13.mono fun _ h => h.elim)) e14
    clear e13 e14 B14
    have l12 := B12.lt
    rcases hcase with ⟨hneg, rfl, rfl⟩ | ⟨kn, rfl, ⟨rfl, r2, hr2, rfl, hT2⟩ | ⟨rfl, hT2⟩⟩
    · have LW : LawAt key name W w14 g sp bo b7 Dg R (i + 1) s := ⟨L.told.mono (Nat.le_succ i), B7', ⟨Ds', hW', fun j hj => ⟨(hD' j hj).1, (hD' j hj).2.1, (hD' j hj).2.2.1⟩⟩, ho', L.ofr, K', L.room, L.n7, L.ng⟩
      (refine s_as ?_; refine AtR_nil ?_; refine At_seq ?_; refine At_seq ?_; refine At_region ?_; refine s_mv ?_; refine s_lss ?_; refine AtR_nil ?_; refine At_cond_t rfl ?_; refine At_seq ?_; refine At_seq ?_; refine At_region ?_; refine s_mv ?_; refine s_neq ?_; refine AtR_nil ?_; refine At_cond_f rfl ?_; refine At_skip ?_; refine At_exit rfl ?_; refine At_region ?_; refine s_mv ?_; refine s_ad ?_; refine s_as ?_; refine AtR_nil ?_)
      exact again (i + 1, s) _ _ ⟨rfl, rfl, rfl, rfl, rfl, rfl, trivial⟩ ⟨hlt, LW⟩ (by simp only; omega)
    · (refine s_as ?_; refine AtR_nil ?_; refine At_seq ?_; refine At_seq ?_; refine At_region ?_; refine s_mv ?_; refine s_lss ?_; refine AtR_nil ?_; refine At_cond_f rfl ?_; refine At_skip ?_; refine At_seq ?_; refine At_region ?_; refine s_mv ?_; refine s_eql ?_; refine AtR_nil ?_; refine At_cond_t rfl ?_)
      have kdr := Kp.drew (S := No) (w := w14)
      let S : World → Prop := fun w' => Blk w' b14 40 (0, 0) (trC r2 (s.d : Int))
      have hSk : ∀ {S0 : Nat → Prop} {w w'}, S w → Kp S0 w w' → ¬ S0 b14 → S w' := fun h k h1 => Blk.kp h k h1
      have hS : S w14.drew := hSk (w := w14) B12 kdr id
      have zd := kdr.size
      refine At_draw S rfl ?_
      (apply AtH_take 1 rfl (by decide +kernel) (by exact rfl); (focus (intro wx hx; skip; exact x_move (by conv => lhs; whnf))); (focus (exact hS)))
      (apply AtH_take 2 rfl (by decide +kernel) (by exact rfl); (focus (intro wx hx; skip; exact x_move (by conv => lhs; whnf))); (focus (exact hS)))
      -- ready now: 0 load 40 t14, 3 call f57(t146, t147)
      refine AtH_take 0 rfl (by decide +kernel) (by exact rfl) (fun wx hx => x_load_all rfl hx hV) hS ?_
      refine AtH_call 3 rfl (by decide +kernel) (by exact rfl) x_call  (cutL_calls s.l (kn : Int) s.al s.cl _ (ho'.kp kdr fun _ _ h => h) (by omega)) ?_
      rintro _ w15 ⟨a2, c2, rfl, ho2, hf2, k15⟩
      have hS15 := hSk hS k15 id
      refine ⟨_, rfl, hS15, ?_⟩
      clear hS
      have hS := hS15
      have K15 := kdr.trans k15
      have z15 := k15.size
      have l7' := B7'.lt
      have hdl := hW'.stt.dlt
      refine H_skip 4 rfl (by decide +kernel) (by exact rfl) (r_store_all (s := 34) (vs := trC r2 (s.d : Int)) rfl rfl (B7'.kp K15 fun h => h) hV hl34 hV1) ?_
      intro w16 e16
      have k16 : Kp (fun j => j = b7) w15 w16 := e16.kp (.inl rfl)
      have hS16 := hSk hS k16 (by omega)
      refine ⟨hS16, ?_⟩
      clear hS
      have hS := hS16
      (apply AtH_take 5 rfl (by decide +kernel) (by exact rfl); (focus (intro wx hx; skip; exact x_assign (by conv => lhs; whnf))); (focus (exact hS)))
      refine AtH_done (by decide +kernel) ?_
      skip
      refine At_inBlock ?_
      refine join ⟨r2, s.d, st2, s.l.filter (cutLF (kn : Int)), a2, c2⟩ _ _ ⟨rfl, rfl, rfl, rfl, rfl, rfl, trivial⟩ ⟨hT2, e16.blk, ⟨Ds', (hW'.kpn K15).kp k16 (by rintro j rfl; exact ⟨fun h => (hD' _ h).2.1 rfl, L.ng⟩), fun j hj => ⟨(hD' j hj).1, (hD' j hj).2.1, fun hb => by have := hf2 _ hb; have := hdl _ hj; omega⟩⟩, ho2.kp k16 (fun j hj e => by subst e; have := hf2 _ hj; omega), fun j hj => ⟨by have := hf2 _ hj; omega, fun e => by subst e; have := hf2 _ hj; omega⟩, (K'.trans K15).trans' k16 (by rintro j rfl; right; exact L.n7), L.room, L.n7, L.ng⟩
    · (refine s_as ?_; refine AtR_nil ?_; refine At_seq ?_; refine At_seq ?_; refine At_region ?_; refine s_mv ?_; refine s_lss ?_; refine AtR_nil ?_; refine At_cond_f rfl ?_; refine At_skip ?_; refine At_seq ?_; refine At_region ?_; refine s_mv ?_; refine s_eql ?_; refine AtR_nil ?_; refine At_cond_f rfl ?_; refine At_seq ?_; refine At_region ?_; refine s_mv ?_; refine s_neq ?_; refine AtR_nil ?_; refine At_cond_f rfl ?_; refine At_skip ?_)
      refine At_inBlock ?_
      exact join ⟨s.r, s.d, st2, s.l, s.al, s.cl⟩ _ _ ⟨rfl, rfl, rfl, rfl, rfl, rfl, trivial⟩ ⟨hT2, B7', ⟨Ds', hW', fun j hj => ⟨(hD' j hj).1, (hD' j hj).2.1, (hD' j hj).2.2.1⟩⟩, ho', L.ofr, K', L.room, L.n7, L.ng⟩
  have hd5 := L.told.few.2.1
  (refine At_block ?_; refine At_seq ?_; refine At_region ?_; refine s_eql ?_; refine s_as ?_; refine AtR_nil ?_; refine At_cond_f rfl ?_; refine At_seq ?_; refine At_region ?_; refine s_eql ?_; refine s_as ?_; refine AtR_nil ?_; refine At_cond_f rfl ?_; refine At_seq ?_; refine At_region ?_; refine s_mv ?_)
  refine s_val (x_load_all rfl L11.bt hl34) ?_
  (refine s_mv ?_)
  refine s_call x_call (Get_calls g sp bo key name s.st s.r (s.d : Int) k _ hW.gr hW.stt hr (by omega) hkr) ?_
  have LW : ∀ {w'}, Kp No w11 w' → LawAt key name W w' g sp bo b7 Dg R (i + 1) s := fun k => (L11.kpn k).up (Nat.le_succ i)
  by_cases hneg : k < 0
  · have hg : getT key name s.st s.r (s.d : Int) k = (2, none) := by unfold getT; rw [if_pos (.inr hneg)]
    have hgl : getL s.l k = none := by
      unfold getL
      rw [List.find?_eq_none.2 fun e he => by simp; omega]; rfl
    rw [hg]
    rintro _ w12 ⟨k12, v, rfl, hv⟩
    refine ⟨_, rfl, ?_⟩
    obtain rfl : v = .slice none 0 0 := hv
    (refine s_mv ?_; refine s_ex ?_; refine s_ex ?_; refine s_as ?_; refine s_as ?_; refine AtR_nil ?_; refine At_seq ?_; refine At_region ?_; refine s_mv ?_; refine s_mv ?_)
    refine s_call x_call (getL_calls s.l k s.al s.cl _ (L11.own.kp k12 fun _ _ h => h) (by omega)) ?_
    rintro _ _ ⟨rfl, rfl⟩
    refine ⟨_, rfl, ?_⟩
    rw [hgl]
    (refine s_mv ?_; refine s_ex ?_; refine s_ex ?_; refine s_as ?_; refine s_as ?_; refine AtR_nil ?_; refine At_seq ?_; refine At_region ?_; refine s_mv ?_; refine s_eql ?_; refine s_mv ?_; refine s_lss ?_)
    refine s_bool (x_neq_bool rfl rfl) (by first | rfl | decide) ?_
    (refine s_mv ?_; refine s_yes rfl rfl rfl rfl ?_; refine g_mv ?_; refine s_yes rfl rfl rfl rfl ?_; refine g_geq ?_; refine s_yes rfl rfl rfl rfl ?_; refine g_mv ?_; refine s_no rfl rfl rfl rfl ?_; refine s_no rfl rfl rfl rfl ?_; refine s_no rfl rfl rfl rfl ?_; refine s_nou rfl rfl rfl ?_; refine s_nou rfl rfl rfl ?_; refine s_nou rfl rfl rfl ?_; refine s_nou rfl rfl rfl ?_; refine s_no rfl rfl rfl rfl ?_; refine s_no rfl rfl rfl rfl ?_; refine s_nou rfl rfl rfl ?_; refine s_nou rfl rfl rfl ?_; refine s_nou rfl rfl rfl ?_; refine s_nou rfl rfl rfl ?_; refine s_nou rfl rfl rfl ?_; refine s_no rfl rfl rfl rfl ?_; refine s_yes rfl rfl rfl rfl ?_; refine g_pf ?_; refine s_pf ?_; refine AtR_nil ?_; refine At_cond_f rfl ?_; refine At_skip ?_)
    refine At_inBlock ?_
    exact join s _ _ ⟨rfl, rfl, rfl, rfl, rfl, rfl, trivial⟩ (LW k12)
  · obtain ⟨kn, rfl⟩ : ∃ kn : Nat, k = kn := ⟨k.toNat, by omega⟩
    rw [L.told.getT kn]
    cases hgl : getL s.l (kn : Int) with
    | none =>
      rintro _ w12 ⟨k12, v, rfl, hv⟩
      refine ⟨_, rfl, ?_⟩
      obtain rfl : v = .slice none 0 0 := hv
      (refine s_mv ?_; refine s_ex ?_; refine s_ex ?_; refine s_as ?_; refine s_as ?_; refine AtR_nil ?_; refine At_seq ?_; refine At_region ?_; refine s_mv ?_; refine s_mv ?_)
      refine s_call x_call (getL_calls s.l (kn : Int) s.al s.cl _ (L11.own.kp k12 fun _ _ h => h) (by omega)) ?_
      rintro _ _ ⟨rfl, rfl⟩
      refine ⟨_, rfl, ?_⟩
      rw [hgl]
      (refine s_mv ?_; refine s_ex ?_; refine s_ex ?_; refine s_as ?_; refine s_as ?_; refine AtR_nil ?_; refine At_seq ?_; refine At_region ?_; refine s_mv ?_; refine s_eql ?_; refine s_mv ?_; refine s_lss ?_)
      refine s_bool (x_neq_bool rfl rfl) (by first | rfl | decide) ?_
      (refine s_mv ?_; refine s_yes rfl rfl rfl rfl ?_; refine g_mv ?_; refine s_yes rfl rfl rfl rfl ?_; refine g_geq ?_; refine s_yes rfl rfl rfl rfl ?_; refine g_mv ?_; refine s_yes rfl rfl rfl rfl ?_; refine g_mv ?_; refine s_yes rfl rfl rfl rfl ?_; refine g_neq ?_; refine s_yes rfl rfl rfl rfl ?_; refine g_mv ?_; refine s_yes rfl rfl rfl rfl ?_; refine g_mv ?_)
      refine s_yes rfl rfl rfl rfl (g_val (x_conv_bs rfl (nil_sl _)) ?_)
      (refine s_yes rfl rfl rfl rfl ?_; refine g_mv ?_)
      refine s_yes rfl rfl rfl rfl (g_bool (x_neq_str rfl rfl) (decide_eq_false (fun h => h rfl)) ?_)
      (refine s_yes rfl rfl rfl rfl ?_; refine g_pf ?_; refine s_yes rfl rfl rfl rfl ?_; refine g_mv ?_; refine s_yes rfl rfl rfl rfl ?_; refine g_mv ?_; refine s_yes rfl rfl rfl rfl ?_; refine g_mv ?_; refine s_yes rfl rfl rfl rfl ?_; refine g_ln ?_; refine s_yes rfl rfl rfl rfl ?_; refine g_gtr ?_)
      refine s_yes rfl rfl rfl rfl (g_bool (x_neq_bool rfl rfl) (by first | rfl | decide) ?_)
      (refine s_yes rfl rfl rfl rfl ?_; refine g_pf ?_; refine s_yes rfl rfl rfl rfl ?_; refine g_pt ?_; refine s_pf ?_; refine AtR_nil ?_; refine At_cond_f rfl ?_; refine At_skip ?_)
      refine At_inBlock ?_
      exact join s _ _ ⟨rfl, rfl, rfl, rfl, rfl, rfl, trivial⟩ (LW k12)
    | some x =>
      rintro _ w12 ⟨k12, v, rfl, hv⟩
      refine ⟨_, rfl, ?_⟩
      obtain ⟨bv, cv, rfl, hsv, hbv, hbl⟩ : OptAt w11 w12 (some x) v := hv
      (refine s_mv ?_; refine s_ex ?_; refine s_ex ?_; refine s_as ?_; refine s_as ?_; refine AtR_nil ?_; refine At_seq ?_; refine At_region ?_; refine s_mv ?_; refine s_mv ?_)
      refine s_call x_call (getL_calls s.l (kn : Int) s.al s.cl _ (L11.own.kp k12 fun _ _ h => h) (by omega)) ?_
      rintro _ _ ⟨rfl, rfl⟩
      refine ⟨_, rfl, ?_⟩
      rw [hgl]
      (refine s_mv ?_; refine s_ex ?_; refine s_ex ?_; refine s_as ?_; refine s_as ?_; refine AtR_nil ?_; refine At_seq ?_; refine At_region ?_; refine s_mv ?_; refine s_eql ?_; refine s_mv ?_; refine s_lss ?_)
      refine s_bool (x_neq_bool rfl rfl) (by first | rfl | decide) ?_
      (refine s_mv ?_; refine s_yes rfl rfl rfl rfl ?_; refine g_mv ?_; refine s_yes rfl rfl rfl rfl ?_; refine g_geq ?_; refine s_yes rfl rfl rfl rfl ?_; refine g_mv ?_; refine s_yes rfl rfl rfl rfl ?_; refine g_mv ?_; refine s_yes rfl rfl rfl rfl ?_; refine g_neq ?_; refine s_yes rfl rfl rfl rfl ?_; refine g_mv ?_; refine s_yes rfl rfl rfl rfl ?_; refine g_mv ?_)
      refine s_yes rfl rfl rfl rfl (g_val (x_conv_bs rfl (hsv.e (D := fun _ => True) fun _ _ => trivial)) ?_)
      (refine s_yes rfl rfl rfl rfl ?_; refine g_mv ?_)
      refine s_yes rfl rfl rfl rfl (g_bool (x_neq_str rfl rfl) (decide_eq_false (fun h => h rfl)) ?_)
      (refine s_yes rfl rfl rfl rfl ?_; refine g_pf ?_; refine s_yes rfl rfl rfl rfl ?_; refine g_mv ?_; refine s_yes rfl rfl rfl rfl ?_; refine g_mv ?_; refine s_yes rfl rfl rfl rfl ?_; refine g_mv ?_; refine s_yes rfl rfl rfl rfl ?_; refine g_ln ?_; refine s_yes rfl rfl rfl rfl ?_; refine g_gtr ?_)
      refine s_yes rfl rfl rfl rfl (g_bool (x_neq_bool rfl rfl) (by first | rfl | decide) ?_)
      (refine s_yes rfl rfl rfl rfl ?_; refine g_pf ?_; refine s_yes rfl rfl rfl rfl ?_; refine g_pt ?_; refine s_pf ?_; refine AtR_nil ?_; refine At_cond_f rfl ?_; refine At_skip ?_)
      refine At_inBlock ?_
      exact join s _ _ ⟨rfl, rfl, rfl, rfl, rfl, rfl, trivial⟩ (LW k12)
end Go.Proofs.YtfngacepjcdlnaaDoor

namespace Go.Proofs.YtfngacepjcdlnaaDoor
open Go Go.Kx Go.Kr Go.Mt
theorem mtreeActs_in (W : World) (hC : ∃ fz, Blk W 1 243 fz (ints .u64 (ws kSha))) (room : Int) (hroom : (Lit.int .i64 room).wf = true) (a : Option Addr) (len cap : Nat) (acs : List ActT) (hs : SlT W a len cap acs (fun b => b < W.heap.size)) :
    Calls Tryd.prog 13 #[.int .i64 room, .slice a len cap] W fun e w' => e = .returned (.bool true) ∧ RowKit.Below W.heap.size W w' :=
  mtreeActs_row W hC room (wf_i64 hroom) a len cap acs hs
end Go.Proofs.YtfngacepjcdlnaaDoor
