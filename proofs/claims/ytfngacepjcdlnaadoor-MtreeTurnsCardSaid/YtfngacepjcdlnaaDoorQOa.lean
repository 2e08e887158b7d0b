/- The law MtreeTurns. | The law MtreeTurns, its arguments opened. -/
import Derived.Test.YtfngacepjcdlnaaDoorQNw
import Derived.Test.YtfngacepjcdlnaaDoorQNe
import Derived.Test.YtfngacepjcdlnaaDoorQKb
set_option linter.unusedVariables false
namespace Go.Mt
open Go Go.Kx Go.Proofs.YtfngacepjcdlnaaDoor
theorem _root_.Go.Kx.SlE.lt' {w : World} {k : IntKind} {a : Option Addr} {len cap : Nat} {xs : List Int} {D : Nat → Prop} (h : SlE w k a len cap xs D) : SlE w k a len cap xs (fun j => D j ∧ j < w.heap.size) := by
 refine ⟨h.len_eq, h.le, h.max, h.mem.imp id ?_⟩
 rintro ⟨b, off, rfl, hl, hd, hs⟩
 exact ⟨b, off, rfl, hl, ⟨hd, hl⟩, hs⟩
theorem xN_nil (L : BlL) : (xN []).foldl listX L = L := rfl
structure LT where
 cut : Int
 m : BiL
 am : Option Addr
 cm : Nat
 xs : List XT
 ax : Option Addr
 cx : Nat
 bad : Bool
structure TurnAt (Wl w : World) (al : Option Addr) (l : BlL) (n : Nat) (t : LT) : Prop where
 K : Kp No Wl w
 cut : -9223372036854775808 ≤ t.cut ∧ t.cut ≤ 9223372036854775807
 om : Own w 174 2 t.am t.m.length t.cm (biC t.m)
 ox : Own w 118 2 t.ax t.xs.length t.cx (xC t.xs)
 fx : ∀ j, blkOf t.ax j → Wl.heap.size ≤ j ∧ ¬ blkOf t.am j
 fm : ∀ j, blkOf t.am j → blkOf al j ∨ Wl.heap.size ≤ j
 at_ : ∀ x ∈ t.xs, x.at w (fun j => Wl.heap.size ≤ j ∧ ¬ blkOf t.ax j)
 lm : t.m.length ≤ 60 + n
 lx : t.xs.length ≤ n
 bad : (t.bad = true ∧ ¬ ∀ x ∈ t.xs, x.ok) ∨ (t.bad = false ∧ ∀ x ∈ t.xs, x.ok)
 rel : 0 ≤ t.cut → (∀ x ∈ t.xs, x.ok) → t.m = toI ((xN t.xs).foldl listX (l.filter (cutLF t.cut)))
end Go.Mt
namespace Go.Proofs.YtfngacepjcdlnaaDoor
open Go Go.Kx Go.Kr Go.Mt
set_option maxRecDepth 100000 in
set_option maxHeartbeats 64000000 in
theorem mtreeTurns_row (W : World) (hC : ∃ fz, Blk W 1 243 fz (ints .u64 (ws kSha))) (room : Int) (hroom : -9223372036854775808 ≤ room ∧ room ≤ 9223372036854775807) (a : Option Addr) (len cap : Nat) (acs : List ActT) (hs : SlT W a len cap acs (fun b => b < W.heap.size))
  (a2 : Option Addr) (len2 cap2 : Nat) (acs2 : List ActT) (hs2 : SlT W a2 len2 cap2 acs2 (fun b => b < W.heap.size)) :
  Calls Tryd.prog 15 #[.int .i64 room, .slice a len cap, .slice a2 len2 cap2] W fun e w' => e = .returned (.bool true) ∧ RowKit.Below W.heap.size W w' := by
 have hCk : ∀ {w'}, Kp No W w' → ∃ fz, Blk w' 1 243 fz (ints .u64 (ws kSha)) := fun k => by obtain ⟨fz, hc⟩ := hC; exact ⟨fz, hc.kp k fun h => h⟩
 have hC1 : 1 < W.heap.size := by obtain ⟨fz, hc⟩ := hC; exact hc.lt
 have hle := hs.le
 have hmx := hs.max
 have hle2 := hs2.le
 have hmx2 := hs2.max
 refine calls_at (n := 192) Tryd.func15 rfl rfl (by simp) ?_
 (refine At_seq (At_region ?_); refine s_as ?_; refine AtR_nil (At_seq (At_seq ?_)); refine At_region ?_)
 refine s_call x_call (awake16_calls _ hC) ?_
 rintro _ w1 ⟨rfl, K1⟩
 refine ⟨_, rfl, ?_⟩
 by_cases hl1 : 6 < len
 ·(refine s_nt ?_; refine s_mv ?_; refine s_yes rfl rfl rfl rfl ?_; refine g_mv ?_; refine s_yes rfl rfl rfl rfl ?_; refine g_ln ?_; refine s_yes rfl rfl rfl rfl ?_; refine g_gtr ?_; refine s_pf ?_; refine s_mv ?_; refine s_no rfl rfl rfl rfl ?_; refine s_no rfl rfl rfl rfl ?_; refine s_no rfl rfl rfl rfl ?_; refine s_pt ?_; refine AtR_nil ?_; refine At_cond_t rfl ?_; refine At_seq (At_region ?_))
  refine s_call x_call (awake16_calls _ (hCk K1)) ?_
  rintro _ w2 ⟨rfl, k2⟩
  refine ⟨_, rfl, ?_⟩
  (refine s_as ?_; refine AtR_nil ?_)
  refine At_ret1 Tryd.func15 rfl (by conv => lhs; whnf) ?_
  exact ⟨rfl, Kp.below (K1.trans k2)⟩
 by_cases hl2 : 6 < len2
 ·(refine s_nt ?_; refine s_mv ?_; refine s_yes rfl rfl rfl rfl ?_; refine g_mv ?_; refine s_yes rfl rfl rfl rfl ?_; refine g_ln ?_; refine s_yes rfl rfl rfl rfl ?_; refine g_gtr ?_; refine s_pf ?_; refine s_mv ?_; refine s_yes rfl rfl rfl rfl ?_; refine g_mv ?_; refine s_yes rfl rfl rfl rfl ?_; refine g_ln ?_; refine s_yes rfl rfl rfl rfl ?_; refine g_gtr ?_; refine s_pf ?_; refine AtR_nil ?_; refine At_cond_t rfl ?_; refine At_seq (At_region ?_))
  refine s_call x_call (awake16_calls _ (hCk K1)) ?_
  rintro _ w2 ⟨rfl, k2⟩
  refine ⟨_, rfl, ?_⟩
  (refine s_as ?_; refine AtR_nil ?_)
  refine At_ret1 Tryd.func15 rfl (by conv => lhs; whnf) ?_
  exact ⟨rfl, Kp.below (K1.trans k2)⟩
 obtain ⟨v1, v2, v3, v4⟩ : (room.tmod 60 + 60) % 60 = (wrapN room 60 : Int) ∧ wrapN room 60 < 60 ∧ -(60 : Int) < room.tmod 60 ∧ room.tmod 60 < 60 := by
  obtain ⟨h1, h2, h3, h4⟩ : (room.tmod 60 + 60).tmod 60 = (wrapN room 60 : Int) ∧ wrapN room 60 < 60 ∧ -(60 : Int) < room.tmod 60 ∧ room.tmod 60 < 60 := wrapN_val (m := 60) (by omega)
  exact ⟨by rw [← h1, rem_nn (a := room.tmod 60 + 60) (by omega)], h2, h3, h4⟩
 generalize wrapN room 60 = R0 at v1 v2
 (refine s_nt ?_; refine s_mv ?_; refine s_yes rfl rfl rfl rfl ?_; refine g_mv ?_; refine s_yes rfl rfl rfl rfl ?_; refine g_ln ?_; refine s_yes rfl rfl rfl rfl ?_; refine g_gtr ?_; refine s_pf ?_; refine s_mv ?_; refine s_yes rfl rfl rfl rfl ?_; refine g_mv ?_; refine s_yes rfl rfl rfl rfl ?_; refine g_ln ?_; refine s_yes rfl rfl rfl rfl ?_; refine g_gtr ?_; refine s_pf ?_; refine AtR_nil ?_; refine At_cond_f rfl ?_; refine At_skip (At_seq (At_region ?_)); refine s_mv ?_)
 refine s_val (x_rem rfl rfl (by omega)) ?_
 (refine s_ad ?_; refine s_rm ?_; refine s_ad ?_)
 rw [v1]
 skip
 obtain ⟨R, hR⟩ : ∃ R, R = 1 + R0 := ⟨_, rfl⟩
 rw [show (1 : Int) + (R0 : Int) = (R : Int) by omega]
 refine s_val (x_build rfl (built51 (R : Int))) ?_
 refine AtR_go rfl (AtG_box rfl fun sp w2 hsp e2 => ?_)
 have SP : Blk w2 sp 51 (0, 0) [.slice none 0 0, .slice none 0 0, .int .i64 (R : Int)] := e2.blk
 have k2 : Kp No w1 w2 := e2.kp (.inr (by omega))
 have hst2 := st_new SP (by omega)
 clear e2
 have lsp := SP.lt
 have z1 := K1.size
 have z2 := k2.size
 (refine s_as ?_; refine AtR_nil (At_seq (At_region ?_)); refine s_mv ?_)
 refine AtR_go rfl (AtG_buildSlice1 (ops := [_, _, _]) rfl rfl (by omega) rfl rfl rfl fun b10 w3 hb10 e3 => ?_)
 have B10 : Blk w3 b10 5 (0, 0) (ints .u8 (bs8 [107, 101, 121])) := e3.blk
 have k3 : Kp No w2 w3 := e3.kp (.inr (by omega))
 clear e3
 have l10 := B10.lt
 refine AtR_go rfl (G_val (r_conv_same rfl B10) ?_)
 rintro _ w4 ⟨rfl, ⟨f10, B10a⟩, k4⟩
 refine AtR_go rfl (AtG_buildSlice1 (ops := [_, _, _, _]) rfl rfl (by omega) rfl rfl rfl fun b12 w5 hb12 e5 => ?_)
 have B12 : Blk w5 b12 5 (0, 0) (ints .u8 (bs8 [110, 97, 109, 101])) := e5.blk
 have k5 : Kp No w4 w5 := e5.kp (.inr (by omega))
 clear e5
 refine AtR_go rfl (G_val (r_conv_same rfl B12) ?_)
 rintro _ w6 ⟨rfl, ⟨f12, B12a⟩, k6⟩
 have z3 := k3.size
 have z4 := k4.size
 have z5 := k5.size
 have z6 := k6.size
 have K4 : Kp No w2 w4 := k3.trans' k4 (by rintro j rfl; right; omega)
 have K6 : Kp No w2 w6 := (K4.trans k5).trans' k6 (by rintro j rfl; right; omega)
 have h1012 : b10 ≠ b12 := by omega
 have B10b := (B10a.kp k5 fun h => h).kp k6 h1012
 have KW6 := (K1.trans k2).trans K6
 refine s_call x_call (grove_wood sp [107, 101, 121] [110, 97, 109, 101] (some ⟨b10, 0, none⟩) (some ⟨b12, 0, none⟩) 3 4 _ (hst2.kpn K6) (hCk KW6) (by omega) ((B10b.sl (m := 3) rfl (by omega)).e (D := fun _ => True) fun _ _ => trivial) (fun h => by cases h) ((B12a.sl (m := 4) rfl (by omega)).e (D := fun _ => True) fun _ _ => trivial) (fun h => by cases h) ⟨by simp, by simp⟩) ?_
 generalize ([107, 101, 121] : List UInt8) = key
 generalize ([110, 97, 109, 101] : List UInt8) = name
 rintro _ w7 ⟨g, bo, Dg, rfl, hW7, hDg, k7⟩
 refine ⟨_, rfl, ?_⟩
 (refine s_as ?_; refine AtR_nil (At_seq (At_seq (At_region ?_))); refine s_mv ?_; refine s_eqlp ?_; refine AtR_nil ?_; refine At_cond_f rfl ?_; refine At_skip (At_seq ?_); refine At_region ?_)
 refine AtR_go rfl (AtG_alloc fun b7 w8 hb7 e8 => ?_)
 have B7 : Blk w8 b7 40 (0, 0) (trC Pr.zero ((0 : Nat) : Int)) := e8.blk
 have k8 : Kp No w7 w8 := e8.kp (.inr (by omega))
 have K8 := (KW6.trans k7).trans k8
 have hW8 := hW7.kpn k8
 have z7 := k7.size
 have ng : ¬ Dg b7 := fun hd => by have := (hW7.sep _ hd).2; omega
 clear e8
 have L0 : LawAt key name W w8 g sp bo b7 Dg R 0 ⟨Pr.zero, 0, St.new R, [], none, 0⟩ :=
  ⟨told_new key name R, B7, ⟨_, hW8, by rintro j rfl; exact ⟨by omega, by omega, fun h => by simp [blkOf] at h⟩⟩, Own.nil _ _ _, fun j hj => by simp [blkOf] at hj, K8, by omega, by omega, ng⟩
 clear B7 hW8 hW7 hDg K8 k8 k7 KW6 K6 K4 k6 k5 k4 k3 k2 SP hst2 B10 B10a B10b B12 B12a z7 z6 z5 z4 z3 z2 z1 hb7 hb12 hb10 hsp l10 lsp K1 v1 v2 v3 v4 hR h1012
 (refine AtR_nil (At_seq (At_region ?_)); refine s_as ?_; refine AtR_nil (At_seq (At_seq (At_region ?_))); refine s_as ?_; refine AtR_nil (At_block ?_))
 refine At_while (fun s : Nat × LS => [(1, .slice a len cap), (2, .slice a2 len2 cap2), (7, .pointer (some ⟨sp, 0, none⟩)), (8, .pointer (some ⟨g, 0, none⟩)), (9, .pointer (some ⟨b7, 0, none⟩)), (10, .slice s.2.al s.2.l.length s.2.cl), (11, .int .i64 (s.1 : Int))])
  (fun s w' => s.1 ≤ len ∧ LawAt key name W w' g sp bo b7 Dg R s.1 s.2) (fun s => len - s.1) (0, ⟨Pr.zero, 0, St.new R, [], none, 0⟩) ⟨rfl, rfl, rfl, rfl, rfl, rfl, rfl, trivial⟩ ⟨by omega, L0⟩ ?_
 clear L0
 rintro ⟨i, s⟩ w9 junk ⟨hi, L⟩ again
 simp only at hi L again ⊢
 by_cases hlt : i < len
 ·obtain ⟨b, off, rfl, ⟨kd, m, c⟩, hget, hsg, hbW, hwf⟩ := (hs.kpn L.K).get hlt
  obtain ⟨u, rfl⟩ := octet_in2 hwf.c
  have hm := hwf.m
  simp only at hm
  replace hsg : Seg w9 b (off + i * 3) [.int .i64 kd, .int .i64 m, .int .u8 (ub u)] := hsg
  obtain ⟨v1, v2, v3, v4⟩ : (m.tmod 3000 + 3000) % 3000 = (wrapN m 3000 : Int) ∧ wrapN m 3000 < 3000 ∧ -(3000 : Int) < m.tmod 3000 ∧ m.tmod 3000 < 3000 := by
   obtain ⟨h1, h2, h3, h4⟩ : (m.tmod 3000 + 3000).tmod 3000 = (wrapN m 3000 : Int) ∧ wrapN m 3000 < 3000 ∧ -(3000 : Int) < m.tmod 3000 ∧ m.tmod 3000 < 3000 := wrapN_val (m := 3000) (by omega)
   exact ⟨by rw [← h1, rem_nn (a := m.tmod 3000 + 3000) (by omega)], h2, h3, h4⟩
  generalize wrapN m 3000 = kn at v1 v2
  (refine At_seq (At_seq (At_region ?_)); refine s_mv ?_; refine s_mv ?_; refine s_ln ?_; refine s_lss ?_; refine AtR_nil ?_; refine At_cond_t rfl ?_; refine At_skip (At_seq (At_block (At_seq (At_region ?_)))); refine s_mv ?_; refine s_mv ?_)
  refine s_val (x_indexAddr (s := 3) rfl rfl (by omega) (by omega)) ?_
  rw [Int.toNat_natCast]
  (refine s_fa ?_)
  refine s_val (x_load_seg (off := off + i * 3) (j := 1) (by first | rfl | exact congrArg (fun o => Value.pointer (some ⟨b, o, none⟩)) (by omega)) hsg rfl) ?_
  skip
  refine s_val (x_rem rfl rfl (by omega)) ?_
  (refine s_ad ?_; refine s_rm ?_; refine s_as ?_; refine AtR_nil (At_seq ?_))
  rw [v1]
  skip
  have zW := L.K.size
  have lb : b < w9.heap.size := by omega
  obtain ⟨Ds, hW, hDs⟩ := L.wood
  have hr := L.told.wf hW.stt.few.1
  have hl34 := trC_length hr (s.d : Int)
  have nD7 : ¬ Ds b7 := fun h => (hDs _ h).2.1 rfl
  have nDb : ¬ Ds b := fun h => by have := (hDs _ h).1; omega
  have hn : i * R ≤ 300000 := by have := Nat.mul_le_mul (show i ≤ 12 by omega) L.room; omega
  have l7 := L.bt.lt
  have n7b : b7 ≠ b := by have := L.n7; omega
  have hlB : s.l.length ≤ 60 := by have := L.told.few.1; have := L.room; omega
  obtain ⟨V, cd, st2, hV, hV1, hcalls, hcase⟩ := law_put hW L.told L.room hn (kn : Int) (by omega) u
  have fin20 : ∀ {w6 w7 : World} {b12 : Nat} {Ds' : Nat → Prop}, Wood w6 g sp bo key name st2 Ds' Dg → (∀ j, Ds' j → Ds j ∨ w9.heap.size ≤ j ∧ j ≠ b12) → w9.heap.size ≤ b12 → Kp Ds w9 w6 → Eff w6 w7 b12 (.cells V.toArray 40 (0, 0)) →
    Blk w7 b12 40 (0, 0) V ∧ Blk w7 b7 40 (0, 0) (trC s.r (s.d : Int)) ∧ Seg w7 b (off + i * 3) [.int .i64 kd, .int .i64 m, .int .u8 (ub u)] ∧ Own w7 174 2 s.al s.l.length s.cl (blC s.l) ∧ (∃ Ds', Wood w7 g sp bo key name st2 Ds' Dg ∧ ∀ j, Ds' j → W.heap.size ≤ j ∧ j ≠ b7 ∧ ¬ blkOf s.al j ∧ j ≠ b12) ∧ Kp No W w7 ∧ w9.heap.size ≤ b12 := by
   intro w6 w7 b12 Ds' h6 hD hb k6 e
   have k7 : Kp (fun j => j = b12) w6 w7 := e.kp (.inl rfl)
   have hol := L.own.lt
   have hds : ∀ j, Ds j → j < w9.heap.size := fun j hj => hW.stt.dlt j hj
   have n12 : ¬ Ds' b12 := fun hd => (hD _ hd).elim (fun h => by have := hds _ h; omega) fun h => h.2 rfl
   have z6 := k6.size
   refine ⟨e.blk, (L.bt.kp k6 nD7).kp k7 (by omega), (hsg.kp k6 nDb lb).kp k7 (by omega) (by omega), (L.own.kp k6 fun j hj hd => (hDs j hd).2.2 hj).kp k7 (fun j hj e => by subst e; have := hol _ hj; omega), ⟨Ds', h6.kp k7 (by
    rintro j rfl
    exact ⟨n12, fun hg => by have := (hW.sep _ hg).2; omega⟩), fun j hj => ?_⟩, (L.K.trans' k6 fun j hj => .inr (hDs j hj).1).trans' k7 (by rintro j rfl; right; omega), hb⟩
   rcases hD j hj with h | ⟨h, h'⟩
   ·obtain ⟨q1, q2, q3⟩ := hDs j h
    exact ⟨q1, q2, q3, fun e => by subst e; exact n12 hj⟩
   ·exact ⟨by omega, by omega, fun hb => by have := hol _ hb; omega, h'⟩
  refine At_meet (σ := Nat) (fun b12 => [(1, .slice (some ⟨b, off, none⟩) len cap), (2, .slice a2 len2 cap2), (7, .pointer (some ⟨sp, 0, none⟩)), (8, .pointer (some ⟨g, 0, none⟩)), (9, .pointer (some ⟨b7, 0, none⟩)), (10, .slice s.al s.l.length s.cl), (11, .int .i64 (i : Int)), (12, .int .i64 (kn : Int)), (13, .pointer (some ⟨b12, 0, none⟩)), (14, .int .i64 (cd : Int))])
   (fun b12 w7 => Blk w7 b12 40 (0, 0) V ∧ Blk w7 b7 40 (0, 0) (trC s.r (s.d : Int)) ∧ Seg w7 b (off + i * 3) [.int .i64 kd, .int .i64 m, .int .u8 (ub u)] ∧ Own w7 174 2 s.al s.l.length s.cl (blC s.l) ∧ (∃ Ds', Wood w7 g sp bo key name st2 Ds' Dg ∧ ∀ j, Ds' j → W.heap.size ≤ j ∧ j ≠ b7 ∧ ¬ blkOf s.al j ∧ j ≠ b12) ∧ Kp No W w7 ∧ w9.heap.size ≤ b12) ?_ ?_
  rotate_left
  ·intro join1
   have kdr := Kp.drew (S := No) (w := w9)
   let S : World → Prop := fun w' => Blk w' b7 40 (0, 0) (trC s.r (s.d : Int)) ∧ Seg w' b (off + i * 3) [.int .i64 kd, .int .i64 m, .int .u8 (ub u)] ∧ b < w'.heap.size
   have hSk : ∀ {S0 : Nat → Prop} {w w'}, S w → Kp S0 w w' → ¬ S0 b7 → ¬ S0 b → S w' := fun h k h1 h2 => ⟨h.1.kp k h1, h.2.1.kp k h2 h.2.2, Nat.lt_of_lt_of_le h.2.2 k.size⟩
   have hS : S w9.drew := hSk (w := w9) ⟨L.bt, hsg, lb⟩ kdr id id
   have zd := kdr.size
   refine At_draw S rfl ?_
   (apply AtH_take 0 rfl (by decide +kernel) (by exact rfl); (focus (intro wx hx; skip; exact x_move (by conv => lhs; whnf))); (focus (exact hS)))
   (apply AtH_take 2 rfl (by decide +kernel) (by exact rfl); (focus (intro wx hx; skip; exact x_move (by conv => lhs; whnf))); (focus (exact hS)))
   (apply AtH_take 3 rfl (by decide +kernel) (by exact rfl); (focus (intro wx hx; skip; exact x_move (by conv => lhs; whnf))); (focus (exact hS)))
   (apply AtH_take 4 rfl (by decide +kernel) (by exact rfl); (focus (intro wx hx; skip; exact x_move (by conv => lhs; whnf))); (focus (exact hS)))
   refine AtH_take 1 rfl (by decide +kernel) (by exact rfl) (fun wx hx => x_load_all rfl hx.1 hl34) hS ?_
   refine AtH_take 5 rfl (by decide +kernel) (by exact rfl) (fun wx hx => x_indexAddr (s := 3) rfl rfl (by omega) (by omega)) hS ?_
   rw [Int.toNat_natCast]
   (apply AtH_take 6 rfl (by decide +kernel) (by exact rfl); (focus (intro wx hx; skip; exact x_fieldAddrN rfl (by first | exact Nat.zero_add _ | exact Nat.add_zero _ | (simp only [Nat.reduceAdd] <;> rfl) | exact rfl))); (focus (exact hS)))
   refine AtH_take 7 rfl (by decide +kernel) (by exact rfl) (fun wx hx => x_load_seg (off := off + i * 3) (j := 2) (by first | rfl | exact congrArg (fun o => Value.pointer (some ⟨b, o, none⟩)) (by omega)) hx.2.1 rfl) hS ?_
   refine AtH_pairX 13 8 rfl rfl (by first | exact .inl (by decide +kernel) | exact .inr (by decide +kernel)) (by exact rfl) (by exact rfl) r_alloc x_call (block_calls u _) ?_ ?_
   ·rintro _ w12 ⟨b12, rfl, hb12, e12⟩
    have B12 : Blk w12 b12 40 (0, 0) z40 := e12.blk
    have k12 : Kp No w9.drew w12 := e12.kp (.inr (by omega))
    have hS12 := hSk hS k12 id id
    refine ⟨hS12, ?_⟩
    clear hS e12
    have hS := hS12
    refine AtH_call 8 rfl (by decide +kernel) (by exact rfl) x_call  (block_calls u _) ?_
    rintro _ w13 ⟨bb, rfl, hob, hbb, k13⟩
    have hS13 := hSk hS k13 id id
    refine ⟨_, rfl, hS13, ?_⟩
    clear hS
    have hS := hS13
    have K13 := (kdr.trans k12).trans k13
    have z12 := k12.size
    have z13 := k13.size
    have l12 := B12.lt
    refine AtH_call 9 rfl (by decide +kernel) (by exact rfl) x_call  (hcalls w13 bb K13 hob (by omega)) ?_
    rintro _ w14 ⟨rfl, Ds', hW14, hD14, k14⟩
    have hS14 := hSk hS k14 nD7 nDb
    refine ⟨_, rfl, hS14, ?_⟩
    clear hS
    have hS := hS14
    have n12 : ¬ Ds b12 := fun hd => by have := hW.stt.dlt _ hd; omega
    (apply AtH_take 10 rfl (by decide +kernel) (by exact rfl); (focus (intro wx hx; skip; exact x_move (by conv => lhs; whnf))); (focus (exact hS)))
    (apply AtH_take 11 rfl (by decide +kernel) (by exact rfl); (focus (intro wx hx; skip; exact x_extract rfl rfl)); (focus (exact hS)))
    (apply AtH_take 12 rfl (by decide +kernel) (by exact rfl); (focus (intro wx hx; skip; exact x_extract rfl rfl)); (focus (exact hS)))
    refine H_skip 14 rfl (by decide +kernel) (by exact rfl) (r_store_all (s := 34) (vs := V) rfl rfl ((B12.kp k13 fun h => h).kp k14 n12) hV rfl hV1) ?_
    intro w15 e15
    have hS15 := hSk hS (e15.kp (S := fun j => j = b12) (.inl rfl)) (by omega) (by omega)
    refine ⟨hS15, ?_⟩
    clear hS
    have hS := hS15
    (apply AtH_take 15 rfl (by decide +kernel) (by exact rfl); (focus (intro wx hx; skip; exact x_assign (by conv => lhs; whnf))); (focus (exact hS)))
    refine AtH_done (by decide +kernel) ?_
    exact join1 b12 _ _ ⟨rfl, rfl, rfl, rfl, rfl, rfl, rfl, rfl, rfl, rfl, trivial⟩ (fin20 hW14 (fun j hj => (hD14 j hj).imp id fun h => ⟨by omega, by omega⟩) (by omega) ((K13.mono fun _ h => h.elim).trans k14) e15)
   ·rintro _ w12 ⟨bb, rfl, hob, hbb, k12⟩
    have hS12 := hSk hS k12 id id
    refine ⟨_, rfl, hS12, ?_⟩
    clear hS
    have hS := hS12
    have z12 := k12.size
    refine AtH_pairX 13 9 rfl rfl (by first | exact .inl (by decide +kernel) | exact .inr (by decide +kernel)) (by exact rfl) (by exact rfl) r_alloc x_call (hcalls w12 bb (kdr.trans k12) hob (by omega)) ?_ ?_
    ·rintro _ w13 ⟨b12, rfl, hb12, e13⟩
     have B12 : Blk w13 b12 40 (0, 0) z40 := e13.blk
     have k13 : Kp No w12 w13 := e13.kp (.inr (by omega))
     have hS13 := hSk hS k13 id id
     refine ⟨hS13, ?_⟩
     clear hS e13
     have hS := hS13
     have K13 := (kdr.trans k12).trans k13
     have z13 := k13.size
     have l12 := B12.lt
     refine AtH_call 9 rfl (by decide +kernel) (by exact rfl) x_call  (hcalls w13 bb K13 (hob.kp k13 fun _ _ h => h) (by omega)) ?_
     rintro _ w14 ⟨rfl, Ds', hW14, hD14, k14⟩
     have hS14 := hSk hS k14 nD7 nDb
     refine ⟨_, rfl, hS14, ?_⟩
     clear hS
     have hS := hS14
     have n12 : ¬ Ds b12 := fun hd => by have := hW.stt.dlt _ hd; omega
     (apply AtH_take 10 rfl (by decide +kernel) (by exact rfl); (focus (intro wx hx; skip; exact x_move (by conv => lhs; whnf))); (focus (exact hS)))
     (apply AtH_take 11 rfl (by decide +kernel) (by exact rfl); (focus (intro wx hx; skip; exact x_extract rfl rfl)); (focus (exact hS)))
     (apply AtH_take 12 rfl (by decide +kernel) (by exact rfl); (focus (intro wx hx; skip; exact x_extract rfl rfl)); (focus (exact hS)))
     refine H_skip 14 rfl (by decide +kernel) (by exact rfl) (r_store_all (s := 34) (vs := V) rfl rfl (B12.kp k14 n12) hV rfl hV1) ?_
     intro w15 e15
     have hS15 := hSk hS (e15.kp (S := fun j => j = b12) (.inl rfl)) (by omega) (by omega)
     refine ⟨hS15, ?_⟩
     clear hS
     have hS := hS15
     (apply AtH_take 15 rfl (by decide +kernel) (by exact rfl); (focus (intro wx hx; skip; exact x_assign (by conv => lhs; whnf))); (focus (exact hS)))
     refine AtH_done (by decide +kernel) ?_
     exact join1 b12 _ _ ⟨rfl, rfl, rfl, rfl, rfl, rfl, rfl, rfl, rfl, rfl, trivial⟩ (fin20 hW14 (fun j hj => (hD14 j hj).imp id fun h => ⟨by omega, by omega⟩) (by omega) ((K13.mono fun _ h => h.elim).trans k14) e15)
    ·rintro _ w13 ⟨rfl, Ds', hW13, hD13, k13⟩
     have hS13 := hSk hS k13 nD7 nDb
     refine ⟨_, rfl, hS13, ?_⟩
     clear hS
     have hS := hS13
     have z13 := k13.size
     (apply AtH_take 10 rfl (by decide +kernel) (by exact rfl); (focus (intro wx hx; skip; exact x_move (by conv => lhs; whnf))); (focus (exact hS)))
     (apply AtH_take 11 rfl (by decide +kernel) (by exact rfl); (focus (intro wx hx; skip; exact x_extract rfl rfl)); (focus (exact hS)))
     (apply AtH_take 12 rfl (by decide +kernel) (by exact rfl); (focus (intro wx hx; skip; exact x_extract rfl rfl)); (focus (exact hS)))
     refine H_val 13 rfl (by decide +kernel) (by exact rfl) r_alloc ?_
     rintro _ w14 ⟨b12, rfl, hb12, e14⟩
     have B12 : Blk w14 b12 40 (0, 0) z40 := e14.blk
     have k14 : Kp No w13 w14 := e14.kp (.inr (by omega))
     have hS14 := hSk hS k14 id id
     refine ⟨hS14, ?_⟩
     clear hS e14
     have hS := hS14
     refine H_skip 14 rfl (by decide +kernel) (by exact rfl) (r_store_all (s := 34) (vs := V) rfl rfl B12 hV rfl hV1) ?_
     intro w15 e15
     have hS15 := hSk hS (e15.kp (S := fun j => j = b12) (.inl rfl)) (by omega) (by omega)
     refine ⟨hS15, ?_⟩
     clear hS
     have hS := hS15
     (apply AtH_take 15 rfl (by decide +kernel) (by exact rfl); (focus (intro wx hx; skip; exact x_assign (by conv => lhs; whnf))); (focus (exact hS)))
     refine AtH_done (by decide +kernel) ?_
     exact join1 b12 _ _ ⟨rfl, rfl, rfl, rfl, rfl, rfl, rfl, rfl, rfl, rfl, trivial⟩ (fin20 (hW13.kpn k14) (fun j hj => (hD13 j hj).imp id fun h => ⟨by omega, by have := hW13.stt.dlt _ hj; omega⟩) (by omega) (((kdr.trans k12).mono fun _ h => h.elim).trans (k13.trans (k14.mono fun _ h => h.elim))) e15)
  rintro b12 w12 junk3 ⟨B12, B7', hsg', ho', ⟨Ds', hW', hD'⟩, K', hb12⟩
  have l12 := B12.lt
  rcases hcase with ⟨hbad, _, _⟩ | ⟨kn', hkk, hkn, ⟨rfl, r2, d2, hr2, rfl, hT2⟩ | ⟨rfl, hT2⟩⟩
  ·omega
  ·obtain rfl : kn = kn' := by omega
   (refine At_seq (At_region ?_); refine s_mv ?_; refine s_eql ?_; refine AtR_nil ?_; refine At_cond_t rfl ?_)
   have kdr := Kp.drew (S := No) (w := w12)
   have lb' : b < w12.heap.size := by omega
   let S : World → Prop := fun w' => Blk w' b12 40 (0, 0) (trC r2 (d2 : Int)) ∧ Seg w' b (off + i * 3) [.int .i64 kd, .int .i64 m, .int .u8 (ub u)] ∧ b < w'.heap.size
   have hSk : ∀ {S0 : Nat → Prop} {w w'}, S w → Kp S0 w w' → ¬ S0 b12 → ¬ S0 b → S w' := fun h k h1 h2 => ⟨h.1.kp k h1, h.2.1.kp k h2 h.2.2, Nat.lt_of_lt_of_le h.2.2 k.size⟩
   have hS : S w12.drew := hSk (w := w12) ⟨B12, hsg', lb'⟩ kdr id id
   have zd := kdr.size
   refine At_draw S rfl ?_
   (apply AtH_take 1 rfl (by decide +kernel) (by exact rfl); (focus (intro wx hx; skip; exact x_move (by conv => lhs; whnf))); (focus (exact hS)))
   (apply AtH_take 2 rfl (by decide +kernel) (by exact rfl); (focus (intro wx hx; skip; exact x_move (by conv => lhs; whnf))); (focus (exact hS)))
   (apply AtH_take 3 rfl (by decide +kernel) (by exact rfl); (focus (intro wx hx; skip; exact x_move (by conv => lhs; whnf))); (focus (exact hS)))
   (apply AtH_take 4 rfl (by decide +kernel) (by exact rfl); (focus (intro wx hx; skip; exact x_move (by conv => lhs; whnf))); (focus (exact hS)))
   refine AtH_take 0 rfl (by decide +kernel) (by exact rfl) (fun wx hx => x_load_all rfl hx.1 hV) hS ?_
   refine AtH_take 5 rfl (by decide +kernel) (by exact rfl) (fun wx hx => x_indexAddr (s := 3) rfl rfl (by omega) (by omega)) hS ?_
   rw [Int.toNat_natCast]
   (apply AtH_take 6 rfl (by decide +kernel) (by exact rfl); (focus (intro wx hx; skip; exact x_fieldAddrN rfl (by first | exact Nat.zero_add _ | exact Nat.add_zero _ | (simp only [Nat.reduceAdd] <;> rfl) | exact rfl))); (focus (exact hS)))
   refine AtH_take 7 rfl (by decide +kernel) (by exact rfl) (fun wx hx => x_load_seg (off := off + i * 3) (j := 2) (by first | rfl | exact congrArg (fun o => Value.pointer (some ⟨b, o, none⟩)) (by omega)) hx.2.1 rfl) hS ?_
   refine AtH_call 8 rfl (by decide +kernel) (by exact rfl) x_call  (block_calls u _) ?_
   rintro _ w13 ⟨bb, rfl, hob, hbb, k13⟩
   have hS13 := hSk hS k13 id id
   refine ⟨_, rfl, hS13, ?_⟩
   clear hS
   have hS := hS13
   refine AtH_val 9 rfl (by decide +kernel) (by exact rfl) (x_conv_bs rfl (hob.sl.e (D := fun _ => True) fun _ _ => trivial)) hS ?_
   have K13 := kdr.trans k13
   refine AtH_call 10 rfl (by decide +kernel) (by exact rfl) x_call  (putLn_calls s.l kn (blockB u) s.al s.cl _ (ho'.kp K13 fun _ _ h => h) (by omega)) ?_
   rintro _ w14 ⟨a3, c3, rfl, ho2, hf2, k14⟩
   have hS14 := hSk hS k14 id id
   refine ⟨_, rfl, hS14, ?_⟩
   clear hS
   have hS := hS14
   have K14 := K13.trans k14
   have z13 := k13.size
   have z14 := k14.size
   have l7' := B7'.lt
   have hdl := hW'.stt.dlt
   refine H_skip 11 rfl (by decide +kernel) (by exact rfl) (r_store_all (s := 34) (vs := trC r2 (d2 : Int)) rfl rfl (B7'.kp K14 fun h => h) hV hl34 hV1) ?_
   intro w15 e15
   have k15 : Kp (fun j => j = b7) w14 w15 := e15.kp (.inl rfl)
   have hS15 := hSk hS k15 (by omega) (by omega)
   refine ⟨hS15, ?_⟩
   clear hS
   have hS := hS15
   (apply AtH_take 12 rfl (by decide +kernel) (by exact rfl); (focus (intro wx hx; skip; exact x_assign (by conv => lhs; whnf))); (focus (exact hS)))
   refine AtH_done (by decide +kernel) ?_
   (refine At_inBlock (At_region ?_); refine s_mv ?_; refine s_ad ?_; refine s_as ?_; refine AtR_nil ?_)
   refine again (i + 1, ⟨r2, d2, st2, putF s.l kn (blockB u), a3, c3⟩) _ _ ⟨rfl, rfl, rfl, rfl, rfl, rfl, rfl, trivial⟩ ⟨hlt, ⟨hT2, e15.blk, ⟨Ds', (hW'.kpn K14).kp k15 (by rintro j rfl; exact ⟨fun h => (hD' _ h).2.1 rfl, L.ng⟩), fun j hj => ⟨(hD' j hj).1, (hD' j hj).2.1, fun hb => by have := hf2 _ hb; have := hdl _ hj; omega⟩⟩, ho2.kp k15 (fun j hj e => by subst e; have := hf2 _ hj; omega), fun j hj => ⟨by have := hf2 _ hj; omega, fun e => by subst e; have := hf2 _ hj; omega⟩, (K'.trans K14).trans' k15 (by rintro j rfl; right; exact L.n7), L.room, L.n7, L.ng⟩⟩ (by simp only; omega)
  ·(refine At_seq (At_region ?_); refine s_mv ?_; refine s_eql ?_; refine AtR_nil ?_; refine At_cond_f rfl ?_; refine At_skip (At_inBlock (At_region ?_)); refine s_mv ?_; refine s_ad ?_; refine s_as ?_; refine AtR_nil ?_)
   exact again (i + 1, ⟨s.r, s.d, st2, s.l, s.al, s.cl⟩) _ _ ⟨rfl, rfl, rfl, rfl, rfl, rfl, rfl, trivial⟩ ⟨hlt, ⟨hT2, B7', ⟨Ds', hW', fun j hj => ⟨(hD' j hj).1, (hD' j hj).2.1, (hD' j hj).2.2.1⟩⟩, ho', L.ofr, K', L.room, L.n7, L.ng⟩⟩ (by simp only; omega)
 have hie : i = len := by omega
 clear again
 obtain ⟨Ds, hW, hDs⟩ := L.wood
 have hdl := hW.stt.dlt
 have hol := L.own.lt
 have hkeys := L.told.few.2.2
 have hl60 : s.l.length ≤ 60 := by have := L.told.few.1; have := L.room; omega
 have hL12 : LawAt key name W w9 g sp bo b7 Dg R 12 s := L.up (by omega)
 clear L
 have L := hL12
 clear hL12
 (refine At_seq (At_seq (At_region ?_)); refine s_mv ?_; refine s_mv ?_; refine s_ln ?_; refine s_lss ?_; refine AtR_nil ?_; refine At_cond_f rfl ?_; refine At_exit rfl ?_; refine At_seq (At_region ?_))
 refine s_call x_call (roomR_calls 5 _ (by omega)) ?_
 rintro _ _ ⟨rfl, rfl⟩
 refine ⟨_, rfl, ?_⟩
 rw [show roomZ 5 = 537824 from rfl]
 have T0 : TurnAt w9 w9 s.al s.l 0 ⟨537824, toI s.l, s.al, s.cl, [], none, 0, false⟩ := by
  refine ⟨Kp.refl _ _, by simp only; omega, by simp only; rw [toI_length, ← blC_toI]; exact L.own, Own.nil _ _ _, fun j hj => by simp [blkOf] at hj, fun j hj => .inl hj, fun x hx => (by cases hx), by simp only; rw [toI_length]; omega, Nat.le_refl _, .inr ⟨rfl, fun x hx => by cases hx⟩, fun _ _ => ?_⟩
  show toI s.l = toI ((xN []).foldl listX (s.l.filter (cutLF 537824)))
  rw [xN_nil, List.filter_eq_self.2 fun e he => show decide ((e.1 : Int) < 537824) = true from decide_eq_true (by have := hkeys e he; omega)]
 have hml0 : (toI s.l).length = s.l.length := toI_length _
 (refine s_as ?_; refine AtR_nil (At_seq (At_region ?_)); refine s_mv ?_; refine s_as ?_; refine AtR_nil (At_seq (At_region ?_)); refine s_as ?_; refine AtR_nil (At_seq (At_region ?_)); refine s_as ?_; refine AtR_nil (At_seq (At_seq (At_region ?_))); refine s_as ?_; refine AtR_nil (At_block ?_))
 refine At_while (fun t : Nat × LT => [(2, .slice a2 len2 cap2), (7, .pointer (some ⟨sp, 0, none⟩)), (8, .pointer (some ⟨g, 0, none⟩)), (9, .pointer (some ⟨b7, 0, none⟩)), (10, .slice s.al s.l.length s.cl), (15, .int .i64 t.2.cut), (16, .slice t.2.am t.2.m.length t.2.cm), (17, .slice t.2.ax t.2.xs.length t.2.cx), (18, .bool t.2.bad), (19, .int .i64 (t.1 : Int))])
  (fun t w' => t.1 ≤ len2 ∧ TurnAt w9 w' s.al s.l t.1 t.2) (fun t => len2 - t.1) (0, ⟨537824, toI s.l, s.al, s.cl, [], none, 0, false⟩) ⟨rfl, rfl, rfl, rfl, rfl, rfl, by rw [hml0]; rfl, rfl, rfl, rfl, trivial⟩ ⟨by omega, T0⟩ ?_
 clear T0
 rintro ⟨i2, t⟩ w10 junk4 ⟨hi2, T⟩ again
 simp only at hi2 T again ⊢
 have zT := T.K.size
 have hxcap := T.ox.2.1
 have hmcap := T.om.2.1
 by_cases hlt : i2 < len2
 ·obtain ⟨b, off, rfl, ⟨kd, m, c⟩, hget, hsg, hbW, hwf⟩ := (hs2.kpn (L.K.trans T.K)).get hlt
  obtain ⟨u, rfl⟩ := octet_in2 hwf.c
  have hm := hwf.m
  have hkd := hwf.kind
  simp only at hm hkd
  replace hsg : Seg w10 b (off + i2 * 3) [.int .i64 kd, .int .i64 m, .int .u8 (ub u)] := hsg
  (refine At_seq (At_seq (At_region ?_)); refine s_mv ?_; refine s_mv ?_; refine s_ln ?_; refine s_lss ?_; refine AtR_nil ?_; refine At_cond_t rfl ?_; refine At_skip (At_seq (At_block (At_seq (At_region ?_)))); refine s_mv ?_; refine s_mv ?_)
  refine s_val (x_indexAddr rfl rfl (by omega) (by omega)) ?_
  rw [Int.toNat_natCast]
  refine s_val (x_load_segN rfl hsg rfl) ?_
  refine AtR_go rfl (AtG_alloc fun bA w11 hbA e11 => ?_)
  refine AtR_go rfl (G_skip (r_storeN (cs := z104) (vs := [.int .i64 kd, .int .i64 m, .int .u8 (ub u)]) rfl rfl e11.blk rfl (Nat.le_refl _) rfl) fun w12 e12 => ?_)
  have BA : Blk w12 bA 104 (0, 0) [.int .i64 kd, .int .i64 m, .int .u8 (ub u)] := e12.blk
  have k12 : Kp No w10 w12 := (e11.kp (S := No) (.inr (by omega))).trans' (e12.kp (S := fun j => j = bA) (.inl rfl)) (by rintro j rfl; right; omega)
  clear e11 e12 hsg
  have z12 := k12.size
  have lA := BA.lt
  have hox := T.ox.lt
  have hom := T.om.lt
  (refine AtR_nil (At_seq (At_region ?_)); refine s_fa ?_; refine s_ld ?_)
  refine s_call x_call (at53_calls m _ hm) ?_
  rintro _ _ ⟨rfl, rfl⟩
  refine ⟨_, rfl, ?_⟩
  have hkr := atZ_range hm
  generalize atZ m = k at hkr ⊢
  (refine s_as ?_; refine AtR_nil (At_seq (At_seq (At_region ?_))); refine s_fa ?_; refine s_ld ?_; refine AtR_nil ?_)
  refine At_meet (σ := LT) (fun t' => [(2, .slice (some ⟨b, off, none⟩) len2 cap2), (7, .pointer (some ⟨sp, 0, none⟩)), (8, .pointer (some ⟨g, 0, none⟩)), (9, .pointer (some ⟨b7, 0, none⟩)), (10, .slice s.al s.l.length s.cl), (15, .int .i64 t'.cut), (16, .slice t'.am t'.m.length t'.cm), (17, .slice t'.ax t'.xs.length t'.cx), (18, .bool t.bad), (19, .int .i64 (i2 : Int)), (21, .int .i64 k)])
   (fun t' w' => TurnAt w9 w' s.al s.l (i2 + 1) ⟨t'.cut, t'.m, t'.am, t'.cm, t'.xs, t'.ax, t'.cx, t.bad || decide (k < 0 ∨ 537824 ≤ k)⟩) ?_ ?_
  ·rintro t' w' junk5 T'
   cases hb : t.bad with
   | true =>
    rw [hb] at T'
    (refine At_region ?_; refine s_mv ?_; refine s_mv ?_; refine s_no rfl rfl rfl rfl ?_; refine s_no rfl rfl rfl rfl ?_; refine s_pt ?_; refine s_mv ?_; refine s_no rfl rfl rfl rfl ?_; refine s_no rfl rfl rfl rfl ?_; refine s_no rfl rfl rfl rfl ?_; refine s_pt ?_; refine s_as ?_; refine AtR_nil (At_inBlock (At_region ?_)); refine s_mv ?_; refine s_ad ?_; refine s_as ?_; refine AtR_nil ?_)
    exact again (i2 + 1, ⟨t'.cut, t'.m, t'.am, t'.cm, t'.xs, t'.ax, t'.cx, true⟩) _ _ ⟨rfl, rfl, rfl, rfl, rfl, rfl, rfl, rfl, rfl, rfl, trivial⟩ ⟨hlt, T'⟩ (by simp only; omega)
   | false =>
    rw [hb] at T'
    by_cases h0 : k < 0
    ·rw [decide_eq_true (show k < 0 ∨ 537824 ≤ k from .inl h0)] at T'
     (refine At_region ?_; refine s_mv ?_; refine s_mv ?_; refine s_yes rfl rfl rfl rfl ?_; refine g_mv ?_; refine s_yes rfl rfl rfl rfl ?_; refine g_lss ?_; refine s_pf ?_; refine s_mv ?_; refine s_no rfl rfl rfl rfl ?_; refine s_no rfl rfl rfl rfl ?_; refine s_no rfl rfl rfl rfl ?_; refine s_pt ?_; refine s_as ?_; refine AtR_nil (At_inBlock (At_region ?_)); refine s_mv ?_; refine s_ad ?_; refine s_as ?_; refine AtR_nil ?_)
     exact again (i2 + 1, ⟨t'.cut, t'.m, t'.am, t'.cm, t'.xs, t'.ax, t'.cx, true⟩) _ _ ⟨rfl, rfl, rfl, rfl, rfl, rfl, rfl, rfl, rfl, rfl, trivial⟩ ⟨hlt, T'⟩ (by simp only; omega)
    ·(refine At_region ?_; refine s_mv ?_; refine s_mv ?_; refine s_yes rfl rfl rfl rfl ?_; refine g_mv ?_; refine s_yes rfl rfl rfl rfl ?_; refine g_lss ?_; refine s_pf ?_; refine s_mv ?_; refine s_yes rfl rfl rfl rfl ?_; refine g_mv ?_)
     refine s_yes rfl rfl rfl rfl ?_
     refine g_call x_call (roomR_calls 5 _ (by omega)) ?_
     rintro _ _ ⟨rfl, rfl⟩
     refine ⟨_, rfl, ?_⟩
     rw [show roomZ 5 = 537824 from rfl]
     by_cases h1 : 537824 ≤ k
     ·rw [decide_eq_true (show k < 0 ∨ 537824 ≤ k from .inr h1)] at T'
      (refine s_yes rfl rfl rfl rfl ?_; refine g_geq ?_; refine s_pf ?_; refine s_as ?_; refine AtR_nil (At_inBlock (At_region ?_)); refine s_mv ?_; refine s_ad ?_; refine s_as ?_; refine AtR_nil ?_)
      exact again (i2 + 1, ⟨t'.cut, t'.m, t'.am, t'.cm, t'.xs, t'.ax, t'.cx, true⟩) _ _ ⟨rfl, rfl, rfl, rfl, rfl, rfl, rfl, rfl, rfl, rfl, trivial⟩ ⟨hlt, T'⟩ (by simp only; omega)
     ·rw [decide_eq_false (show ¬ (k < 0 ∨ 537824 ≤ k) by omega)] at T'
      (refine s_yes rfl rfl rfl rfl ?_; refine g_geq ?_; refine s_pf ?_; refine s_as ?_; refine AtR_nil (At_inBlock (At_region ?_)); refine s_mv ?_; refine s_ad ?_; refine s_as ?_; refine AtR_nil ?_)
      exact again (i2 + 1, ⟨t'.cut, t'.m, t'.am, t'.cm, t'.xs, t'.ax, t'.cx, false⟩) _ _ ⟨rfl, rfl, rfl, rfl, rfl, rfl, rfl, rfl, rfl, rfl, trivial⟩ ⟨hlt, T'⟩ (by simp only; omega)
  intro join
  have more : ∀ (x : XT), x.i = k → ((t.bad || decide (k < 0 ∨ 537824 ≤ k)) = true ∧ ¬ ∀ y ∈ t.xs ++ [x], y.ok) ∨ ((t.bad || decide (k < 0 ∨ 537824 ≤ k)) = false ∧ ∀ y ∈ t.xs ++ [x], y.ok) := by
   intro x hx
   have hxo : x.ok ↔ 0 ≤ k ∧ k < 537824 := by unfold XT.ok; rw [hx]
   by_cases h1 : k < 0 ∨ 537824 ≤ k
   ·refine .inl ⟨by rw [decide_eq_true h1]; simp, fun h => ?_⟩
    have := hxo.1 (h x (by simp))
    omega
   ·rcases T.bad with ⟨h2, h3⟩ | ⟨h2, h3⟩
    ·exact .inl ⟨by rw [h2]; rfl, fun h => h3 fun y hy => h y (List.mem_append_left _ hy)⟩
    ·refine .inr ⟨by rw [h2, decide_eq_false h1]; rfl, fun y hy => ?_⟩
     rcases List.mem_append.1 hy with hy | hy
     ·exact h3 y hy
     ·rw [List.mem_singleton] at hy; subst hy; exact hxo.2 (by omega)
  by_cases c0 : kd = 0
  ·(refine At_block (At_seq (At_region ?_)); refine s_eql ?_; refine s_as ?_; refine AtR_nil ?_; refine At_cond_t rfl ?_; refine At_seq (At_region ?_); refine s_mv ?_; refine s_mv ?_; refine s_fa ?_; refine s_ld ?_)
   refine s_call x_call (block_calls u _) ?_
   rintro _ w13 ⟨bb, rfl, hob, hbb, k13⟩
   refine ⟨_, rfl, ?_⟩
   have lbb := hob.lt bb rfl
   have z13 := k13.size
   refine s_val (x_build (by first | rfl | exact rfl) (built118s k (some ⟨bb, 0, none⟩) 512 512)) ?_
   refine AtR_go rfl (G_val (r_buildSliceA (s := 2) (z := .agg z118.toArray) rfl (by rfl) (by simp [Value.cells, z118])) ?_)
   rintro _ wA ⟨bS, rfl, hbS, eS⟩
   have BS : Blk wA bS 118 (0, 0) [.int .i64 k, .slice (some ⟨bb, 0, none⟩) 512 512] := eS.blk
   have kS : Kp No w13 wA := eS.kp (.inr (by omega))
   clear eS
   have oxS := ((T.ox.kp k12 fun _ _ h => h).kp k13 fun _ _ h => h).kp kS fun _ _ h => h
   have hsrcS : Src Tryd.prog 2 116 (.slice (some ⟨bS, 0, none⟩) 1 1) 1 [.int .i64 k, .slice (some ⟨bb, 0, none⟩) 512 512] wA :=
    Src.ofSlice wA (e' := 118) (by exact (inferInstance : TU Tryd.prog 116 (.slice 118)).h) ⟨bS, 0, none⟩ 1 1 _ (by rfl) (fun j u hj => by rw [add_none, Nat.zero_add, BS.cell, hj]) (fun u hu => by simp at hu; rcases hu with rfl | rfl <;> rfl)
   have hlx := T.lx
   have zS := kS.size
   have zk13 := k13.size
   refine AtR_go rfl (AtG_append (tx := 116) (s := 2) rfl rfl oxS hsrcS (by simp [Value.cells, z118]) (by omega) (by simp only [maxLen]; omega) (by omega) fun ax2 cx2 w14 ox2 kx14 hf14 => ?_)
   have zx14 := kx14.size
   have KX14 : Kp (fun j => blkOf t.ax j ∨ False) w13 w14 := (kS.mono fun _ h => h.elim).trans (kx14.mono fun j hj => .inl hj)
   have K14 : Kp No w9 w14 := ((T.K.trans k12).trans k13).trans' KX14 fun j hj => .inr ((T.fx j (hj.elim id False.elim)).1)
   have om14 : Own w14 174 2 t.am t.m.length t.cm (biC t.m) := ((T.om.kp k12 fun _ _ h => h).kp k13 fun _ _ h => h).kp KX14 fun j hj hx => (T.fx j (hx.elim id False.elim)).2 hj
   have fx2 : ∀ j, blkOf ax2 j → w9.heap.size ≤ j ∧ (blkOf t.ax j ∨ wA.heap.size ≤ j) := fun j hj => by
    rcases hf14 with rfl | ⟨b', rfl, hb⟩
    ·exact ⟨(T.fx j hj).1, .inl hj⟩
    ·simp [blkOf] at hj; exact ⟨by omega, .inr (by omega)⟩
   have at14 : ∀ (x : XT), (x = ⟨k, blockB u, some ⟨bb, 0, none⟩, 512⟩ → x.at w14 (fun j => w9.heap.size ≤ j ∧ ¬ blkOf ax2 j)) → x ∈ t.xs ++ [⟨k, blockB u, some ⟨bb, 0, none⟩, 512⟩] → x.at w14 (fun j => w9.heap.size ≤ j ∧ ¬ blkOf ax2 j) := by
    intro x hnew hx
    rcases List.mem_append.1 hx with hx | hx
    ·have h1 := ((T.at_ x hx).kpn k12).kpn k13
     have h2 := h1.sl.lt'
     refine ⟨?_, h1.len, h1.num⟩
     have h3 : SlE w13 .u8 x.a x.b.length x.cap (bs8 x.b) (fun j => (w9.heap.size ≤ j ∧ ¬ blkOf ax2 j) ∧ ¬ blkOf t.ax j) := ⟨h2.len_eq, h2.le, h2.max, h2.mem.imp id fun ⟨b, off, e, hl, hd, hs⟩ => ⟨b, off, e, hl, ⟨⟨hd.1.1, fun hb => (fx2 b hb).2.elim hd.1.2 fun h => by omega⟩, hd.1.2⟩, hs⟩⟩
     have h4 := h3.kp KX14 fun j hj hx => hj.2 (hx.elim id False.elim)
     exact ⟨h4.len_eq, h4.le, h4.max, h4.mem.imp id fun ⟨b, off, e, hl, hd, hs⟩ => ⟨b, off, e, hl, hd.1, hs⟩⟩
    ·rw [List.mem_singleton] at hx; exact hnew hx
   have nbb : ¬ blkOf ax2 bb := fun hb => (fx2 bb hb).2.elim (fun h => by have := hox bb h; omega) fun h => by omega
   have BA2 := (BA.kp k13 fun h => h).kp KX14 (fun h => h.elim (fun h => by have := hox _ h; omega) id)
   (refine s_as ?_; refine AtR_nil (At_region ?_); refine s_mv ?_; refine s_mv ?_; refine s_fa ?_; refine s_ld ?_)
   refine s_call x_call (block_calls u _) ?_
   rintro _ w15 ⟨bc, rfl, hoc, hbc, k15⟩
   refine ⟨_, rfl, ?_⟩
   have z15 := k15.size
   refine s_val (x_conv_bs rfl (hoc.sl.e (D := fun _ => True) fun _ _ => trivial)) ?_
   skip
   have om15 : Own w15 174 2 t.am t.m.length t.cm (biC t.m) := (om14.kp k15 fun _ _ h => h)
   have hlm := T.lm
   refine s_call x_call (putL_calls t.m k (blockB u) t.am t.cm _ om15 (by omega)) ?_
   rintro _ w16 ⟨am2, cm2, rfl, om2, fm2, k16⟩
   refine ⟨_, rfl, ?_⟩
   have z16 := k16.size
   have hput := putFI_len1 t.m k (blockB u)
   (refine s_as ?_; refine AtR_nil ?_)
   refine At_inBlock ?_
   refine join ⟨t.cut, putFI t.m k (blockB u), am2, cm2, t.xs ++ [⟨k, blockB u, some ⟨bb, 0, none⟩, 512⟩], ax2, cx2, t.bad⟩ _ _ ⟨rfl, rfl, rfl, rfl, rfl, rfl, rfl, by rw [List.length_append]; rfl, rfl, rfl, rfl, trivial⟩
    ⟨(K14.trans k15).trans k16, T.cut, om2, by rw [List.length_append, xC_app]; exact ((ox2.kp k15 fun _ _ h => h).kp k16 fun _ _ h => h), fun j hj => ⟨(fx2 j hj).1, fun hm => by have := fm2 j hm; have := ox2.lt j hj; omega⟩, fun j hj => .inr (by have := fm2 j hj; omega), fun x hx => ?_, by simp only; omega, by simp only [List.length_append, List.length_singleton]; have := T.lx; omega, more _ rfl, fun hc hall => ?_⟩
   ·refine ((at14 x ?_ hx).kpn k15).kpn k16
    intro hxx
    subst hxx
    have hsl : SlE w13 .u8 (some ⟨bb, 0, none⟩) 512 512 (bs8 (blockB u)) (fun j => (w9.heap.size ≤ j ∧ ¬ blkOf ax2 j) ∧ ¬ blkOf t.ax j) := hob.sl.e fun j hj => by
     obtain rfl : bb = j := by simpa [blkOf] using hj
     exact ⟨⟨by omega, nbb⟩, fun h => by have := hox bb h; omega⟩
    have hlb := blockB_length u
    have h4 := hsl.kp KX14 fun j hj hx => hx.elim hj.2 id
    exact ⟨by simp only; rw [hlb]; exact ⟨h4.len_eq, h4.le, h4.max, h4.mem.imp id fun ⟨b, off, e, hl, hd, hs⟩ => ⟨b, off, e, hl, hd.1, hs⟩⟩, .inr hlb, hkr⟩
   ·have hall1 : ∀ x ∈ t.xs, x.ok := fun x hx => hall x (List.mem_append_left _ hx)
    have hk0 : 0 ≤ k ∧ k < 537824 := hall _ (List.mem_append_right _ (List.mem_singleton.2 rfl))
    have hrel := T.rel hc hall1
    obtain ⟨kn, rfl⟩ : ∃ kn : Nat, k = kn := ⟨k.toNat, by omega⟩
    have hne : blockB u ≠ [] := fun h => by have := blockB_length u; rw [h] at this; cases this
    simp only
    rw [hrel, putF_toI]
    unfold xN
    rw [List.map_append, List.foldl_append]
    simp only [List.map_cons, List.map_nil, List.foldl_cons, List.foldl_nil]
    unfold listX
    rw [if_neg hne, Int.toNat_natCast]
  by_cases c1 : kd = 1
  ·by_cases hx0 : t.xs.length = 0
   ·have hnil : t.xs = [] := List.eq_nil_of_length_eq_zero hx0
    have hb0 : t.bad = false := by
     rcases T.bad with ⟨_, h3⟩ | ⟨h2, _⟩
     ·exact absurd (fun x hx => by rw [hnil] at hx; cases hx) h3
     ·exact h2
    (refine At_block (At_seq (At_region ?_)); refine s_eql ?_; refine s_as ?_; refine AtR_nil ?_; refine At_cond_f rfl ?_; refine At_seq (At_region ?_); refine s_eql ?_; refine s_as ?_; refine AtR_nil ?_; refine At_cond_t rfl ?_; refine At_seq (At_seq (At_region ?_)); refine s_mv ?_; refine s_ln ?_; refine s_eql ?_; refine AtR_nil ?_; refine At_cond_t rfl ?_; refine At_seq (At_region ?_); refine s_mv ?_; refine s_as ?_; refine AtR_nil (At_region ?_); refine s_mv ?_; refine s_mv ?_)
    refine s_call x_call (cutL_calls s.l k s.al s.cl _ ((L.kpn (T.K.trans k12)).own) (by omega)) ?_
    rintro _ w13 ⟨am2, cm2, rfl, om2, fm2, k13⟩
    refine ⟨_, rfl, ?_⟩
    have hfl := List.length_filter_le (cutLF k) s.l
    have ht2 : toI (s.l.filter (cutLF k)) = toI (s.l.filter (cutLF k)) := rfl
    (refine s_as ?_; refine AtR_nil ?_; refine At_exit rfl ?_; refine At_region ?_; refine s_mv ?_; refine s_ad ?_; refine s_as ?_; refine AtR_nil ?_)
    refine again (i2 + 1, ⟨k, toI (s.l.filter (cutLF k)), am2, cm2, t.xs, t.ax, t.cx, t.bad⟩) _ _ ⟨rfl, rfl, rfl, rfl, rfl, rfl, by show _ = Value.slice am2 (toI (s.l.filter (cutLF k))).length cm2; rw [toI_length]; rfl, rfl, rfl, rfl, trivial⟩ ⟨hlt, ?_⟩ (by simp only; omega)
    refine ⟨(T.K.trans k12).trans k13, hkr, by simp only; rw [toI_length, ← blC_toI]; exact om2, (T.ox.kp k12 fun _ _ h => h).kp k13 fun _ _ h => h, fun j hj => ⟨(T.fx j hj).1, fun hm => by have := fm2 j hm; have := hox j hj; omega⟩, fun j hj => .inr (by have := fm2 j hj; omega), fun x hx => (by rw [hnil] at hx; cases hx), by simp only; rw [toI_length]; omega, by simp only; have := T.lx; omega, T.bad, fun _ _ => ?_⟩
    simp only
    rw [hnil, xN_nil]
   ·(refine At_block (At_seq (At_region ?_)); refine s_eql ?_; refine s_as ?_; refine AtR_nil ?_; refine At_cond_f rfl ?_; refine At_seq (At_region ?_); refine s_eql ?_; refine s_as ?_; refine AtR_nil ?_; refine At_cond_t rfl ?_; refine At_seq (At_seq (At_region ?_)); refine s_mv ?_; refine s_ln ?_; refine s_eql ?_; refine AtR_nil ?_; refine At_cond_f rfl ?_; refine At_skip ?_; refine At_exit rfl ?_; refine At_region ?_; refine s_mv ?_; refine s_ad ?_; refine s_as ?_; refine AtR_nil ?_)
    exact again (i2 + 1, t) _ _ ⟨rfl, rfl, rfl, rfl, rfl, rfl, rfl, rfl, rfl, rfl, trivial⟩ ⟨hlt, T.K.trans k12, T.cut, T.om.kp k12 fun _ _ h => h, T.ox.kp k12 fun _ _ h => h, T.fx, T.fm, fun x hx => (T.at_ x hx).kpn k12, by have := T.lm; simp only; omega, by have := T.lx; simp only; omega, T.bad, T.rel⟩ (by simp only; omega)
  ·(refine At_block (At_seq (At_region ?_)); refine s_eql ?_; refine s_as ?_; refine AtR_nil ?_; refine At_cond_f rfl ?_; refine At_seq (At_region ?_); refine s_eql ?_; refine s_as ?_; refine AtR_nil ?_; refine At_cond_f rfl ?_; refine At_seq (At_region ?_); refine s_mv ?_; refine s_mv ?_)
   have k13 : Kp No w12 w12 := Kp.refl _ _
   refine s_val (x_build (by first | rfl | exact rfl) (built118n k)) ?_
   refine AtR_go rfl (G_val (r_buildSliceA (s := 2) (z := .agg z118.toArray) rfl (by rfl) (by simp [Value.cells, z118])) ?_)
   rintro _ wA ⟨bS, rfl, hbS, eS⟩
   have BS : Blk wA bS 118 (0, 0) [.int .i64 k, .slice none 0 0] := eS.blk
   have kS : Kp No w12 wA := eS.kp (.inr (by omega))
   clear eS
   have oxS := ((T.ox.kp k12 fun _ _ h => h).kp k13 fun _ _ h => h).kp kS fun _ _ h => h
   have hsrcS : Src Tryd.prog 2 116 (.slice (some ⟨bS, 0, none⟩) 1 1) 1 [.int .i64 k, .slice none 0 0] wA :=
    Src.ofSlice wA (e' := 118) (by exact (inferInstance : TU Tryd.prog 116 (.slice 118)).h) ⟨bS, 0, none⟩ 1 1 _ (by rfl) (fun j u hj => by rw [add_none, Nat.zero_add, BS.cell, hj]) (fun u hu => by simp at hu; rcases hu with rfl | rfl <;> rfl)
   have hlx := T.lx
   have zS := kS.size
   have zk13 := k13.size
   refine AtR_go rfl (AtG_append (tx := 116) (s := 2) rfl rfl oxS hsrcS (by simp [Value.cells, z118]) (by omega) (by simp only [maxLen]; omega) (by omega) fun ax2 cx2 w14 ox2 kx14 hf14 => ?_)
   have zx14 := kx14.size
   have KX14 : Kp (fun j => blkOf t.ax j ∨ False) w12 w14 := (kS.mono fun _ h => h.elim).trans (kx14.mono fun j hj => .inl hj)
   have K14 : Kp No w9 w14 := ((T.K.trans k12).trans k13).trans' KX14 fun j hj => .inr ((T.fx j (hj.elim id False.elim)).1)
   have om14 : Own w14 174 2 t.am t.m.length t.cm (biC t.m) := ((T.om.kp k12 fun _ _ h => h).kp k13 fun _ _ h => h).kp KX14 fun j hj hx => (T.fx j (hx.elim id False.elim)).2 hj
   have fx2 : ∀ j, blkOf ax2 j → w9.heap.size ≤ j ∧ (blkOf t.ax j ∨ wA.heap.size ≤ j) := fun j hj => by
    rcases hf14 with rfl | ⟨b', rfl, hb⟩
    ·exact ⟨(T.fx j hj).1, .inl hj⟩
    ·simp [blkOf] at hj; exact ⟨by omega, .inr (by omega)⟩
   have at14 : ∀ (x : XT), (x = ⟨k, [], none, 0⟩ → x.at w14 (fun j => w9.heap.size ≤ j ∧ ¬ blkOf ax2 j)) → x ∈ t.xs ++ [⟨k, [], none, 0⟩] → x.at w14 (fun j => w9.heap.size ≤ j ∧ ¬ blkOf ax2 j) := by
    intro x hnew hx
    rcases List.mem_append.1 hx with hx | hx
    ·have h1 := ((T.at_ x hx).kpn k12).kpn k13
     have h2 := h1.sl.lt'
     refine ⟨?_, h1.len, h1.num⟩
     have h3 : SlE w12 .u8 x.a x.b.length x.cap (bs8 x.b) (fun j => (w9.heap.size ≤ j ∧ ¬ blkOf ax2 j) ∧ ¬ blkOf t.ax j) := ⟨h2.len_eq, h2.le, h2.max, h2.mem.imp id fun ⟨b, off, e, hl, hd, hs⟩ => ⟨b, off, e, hl, ⟨⟨hd.1.1, fun hb => (fx2 b hb).2.elim hd.1.2 fun h => by omega⟩, hd.1.2⟩, hs⟩⟩
     have h4 := h3.kp KX14 fun j hj hx => hj.2 (hx.elim id False.elim)
     exact ⟨h4.len_eq, h4.le, h4.max, h4.mem.imp id fun ⟨b, off, e, hl, hd, hs⟩ => ⟨b, off, e, hl, hd.1, hs⟩⟩
    ·rw [List.mem_singleton] at hx; exact hnew hx
   (refine s_as ?_; refine AtR_nil (At_region ?_); refine s_mv ?_; refine s_mv ?_)
   have hlm := T.lm
   refine s_call x_call (wouI_calls t.m k t.am t.cm _ om14 (by omega)) ?_
   rintro _ w16 ⟨am2, cm2, rfl, om2, fm2, k16⟩
   refine ⟨_, rfl, ?_⟩
   have z16 := k16.size
   have hfl := List.length_filter_le (wouIF k) t.m
   (refine s_as ?_; refine AtR_nil ?_)
   refine At_inBlock ?_
   refine join ⟨t.cut, t.m.filter (wouIF k), am2, cm2, t.xs ++ [⟨k, [], none, 0⟩], ax2, cx2, t.bad⟩ _ _ ⟨rfl, rfl, rfl, rfl, rfl, rfl, rfl, by rw [List.length_append]; rfl, rfl, rfl, rfl, trivial⟩
    ⟨K14.trans k16, T.cut, om2, by rw [List.length_append, xC_app]; exact ox2.kp k16 fun _ _ h => h, fun j hj => ⟨(fx2 j hj).1, fun hm => by have := fm2 j hm; have := ox2.lt j hj; omega⟩, fun j hj => .inr (by have := fm2 j hj; omega), fun x hx => ?_, by simp only; omega, by simp only [List.length_append, List.length_singleton]; have := T.lx; omega, more _ rfl, fun hc hall => ?_⟩
   ·refine (at14 x ?_ hx).kpn k16
    intro hxx
    subst hxx
    exact ⟨⟨rfl, Nat.le_refl _, by simp only; omega, .inl rfl⟩, .inl rfl, hkr⟩
   ·have hall1 : ∀ x ∈ t.xs, x.ok := fun x hx => hall x (List.mem_append_left _ hx)
    have hk0 : 0 ≤ k ∧ k < 537824 := hall _ (List.mem_append_right _ (List.mem_singleton.2 rfl))
    have hrel := T.rel hc hall1
    obtain ⟨kn, rfl⟩ : ∃ kn : Nat, k = kn := ⟨k.toNat, by omega⟩
    simp only
    rw [hrel, toI_wou]
    unfold xN
    rw [List.map_append, List.foldl_append]
    simp only [List.map_cons, List.map_nil, List.foldl_cons, List.foldl_nil]
    unfold listX
    rw [if_pos rfl, Int.toNat_natCast]
 have hie2 : i2 = len2 := by omega
 clear again
 have L9 := L.kpn T.K
 have hr := L.told.wf hW.stt.few.1
 have hl34 := trC_length hr (s.d : Int)
 have hW10 := hW.kpn T.K
 have hox := T.ox.lt
 have hom := T.om.lt
 have hlen12 := L.told.len
 have nDm : ∀ j, blkOf t.am j → ¬ Ds j := fun j hj hd => (T.fm j hj).elim (hDs j hd).2.2 fun h => by have := hdl j hd; omega
 have nm7 : ¬ blkOf t.am b7 := fun h => (T.fm _ h).elim (fun h => (L.ofr _ h).2 rfl) fun h => by have := L.bt.lt; omega
 have hR60 := L.room
 have hmR : 12 * R ≤ 720 := by omega
 (refine At_seq (At_seq (At_region ?_)); refine s_mv ?_; refine s_mv ?_; refine s_ln ?_; refine s_lss ?_; refine AtR_nil ?_; refine At_cond_f rfl ?_; refine At_exit rfl ?_; refine At_seq (At_region ?_); refine s_mv ?_)
 refine s_val (x_load_all rfl L9.bt hl34) ?_
 (refine s_mv ?_; refine s_mv ?_)
 refine s_call x_call (Turn_wood g sp bo key name s.st s.r s.d t.cut t.xs t.ax t.cx _ (Db := fun j => w9.heap.size ≤ j ∧ j < w10.heap.size) hW10 hr L.told.few.2.1 T.cut T.ox (fun x hx => by
  have hx1 := T.at_ x hx
  have hx2 := hx1.sl.lt'
  exact ⟨⟨hx2.len_eq, hx2.le, hx2.max, hx2.mem.imp id fun ⟨b, off, e, hl, hd, hs⟩ => ⟨b, off, e, hl, ⟨hd.1.1, hl⟩, hs⟩⟩, hx1.len, hx1.num⟩) (fun j hj => ⟨fun hd => by have := hdl j hd; omega, hj.2⟩) (fun j hj hd => by have := (T.fx j hj).1; have := hdl j hd; omega) (by have := T.lx; omega) (by omega)) ?_
 rintro _ w11 (⟨hbad, rfl, k11⟩ | ⟨⟨hc0, hall⟩, rfl, Ds', hW11, hD11, k11⟩)
 ·refine ⟨_, rfl, ?_⟩
  have hbc : t.bad = true ∨ t.cut < 0 := by
   rcases T.bad with ⟨h1, _⟩ | ⟨_, h2⟩
   ·exact .inl h1
   ·right
    have : ¬ 0 ≤ t.cut := fun h => hbad ⟨h, h2⟩
    omega
  (refine s_mv ?_; refine s_ex ?_; refine s_ex ?_)
  refine AtR_go rfl (AtG_alloc fun b22 w12 hb22 e12 => ?_)
  refine AtR_go rfl (G_skip (r_store_all (s := 34) (vs := trC Pr.zero 0) rfl rfl e12.blk rfl rfl rfl) fun w13 e13 => ?_)
  have k13 : Kp No w11 w13 := (e12.kp (S := No) (.inr (by omega))).trans' (e13.kp (S := fun j => j = b22) (.inl rfl)) (by rintro j rfl; right; omega)
  have L13 := (L9.kpn k11).kpn k13
  obtain ⟨Dsx, hWx, _⟩ := L13.wood
  clear e12 e13
  have go : ∀ {w'}, Kp No w13 w' → RowKit.Below W.heap.size W w' := fun k => (L13.K.trans k).below
  cases hb : t.bad with
  | true =>
   (refine s_as ?_; refine AtR_nil (At_seq (At_seq (At_region ?_))); refine s_mv ?_; refine s_mv ?_; refine s_no rfl rfl rfl rfl ?_; refine s_no rfl rfl rfl rfl ?_; refine s_pt ?_; refine AtR_nil ?_; refine At_cond_t rfl ?_; refine At_seq (At_region ?_); refine s_mv ?_; refine s_eql ?_; refine s_mv ?_; refine s_yes rfl rfl rfl rfl ?_; refine g_mv ?_; refine s_yes rfl rfl rfl rfl ?_; refine g_mv ?_)
   refine s_yes rfl rfl rfl rfl (g_val (x_load_all rfl L13.bt hl34) ?_)
   (refine s_yes rfl rfl rfl rfl ?_; refine g_mv ?_)
   refine s_yes rfl rfl rfl rfl ?_
   refine g_call x_call (same59_calls g sp bo key name s.st s.r s.d s.l R 12 s.al s.cl _ L.told (by omega) hWx L13.own) ?_
   rintro _ w14 ⟨rfl, k14⟩
   refine ⟨_, rfl, ?_⟩
   (refine s_pt ?_; refine s_as ?_; refine AtR_nil ?_)
   refine At_ret1 Tryd.func15 rfl (by conv => lhs; whnf) ?_
   exact ⟨rfl, go k14⟩
  | false =>
   have hcn : t.cut < 0 := hbc.resolve_left (by rw [hb]; simp)
   (refine s_as ?_; refine AtR_nil (At_seq (At_seq (At_region ?_))); refine s_mv ?_; refine s_mv ?_; refine s_yes rfl rfl rfl rfl ?_; refine g_mv ?_; refine s_yes rfl rfl rfl rfl ?_; refine g_lss ?_; refine s_pf ?_; refine AtR_nil ?_; refine At_cond_t rfl ?_; refine At_seq (At_region ?_); refine s_mv ?_; refine s_eql ?_; refine s_mv ?_; refine s_yes rfl rfl rfl rfl ?_; refine g_mv ?_; refine s_yes rfl rfl rfl rfl ?_; refine g_mv ?_)
   refine s_yes rfl rfl rfl rfl (g_val (x_load_all rfl L13.bt hl34) ?_)
   (refine s_yes rfl rfl rfl rfl ?_; refine g_mv ?_)
   refine s_yes rfl rfl rfl rfl ?_
   refine g_call x_call (same59_calls g sp bo key name s.st s.r s.d s.l R 12 s.al s.cl _ L.told (by omega) hWx L13.own) ?_
   rintro _ w14 ⟨rfl, k14⟩
   refine ⟨_, rfl, ?_⟩
   (refine s_pt ?_; refine s_as ?_; refine AtR_nil ?_)
   refine At_ret1 Tryd.func15 rfl (by conv => lhs; whnf) ?_
   exact ⟨rfl, go k14⟩
 ·refine ⟨_, rfl, ?_⟩
  have hb : t.bad = false := by
   rcases T.bad with ⟨_, h2⟩ | ⟨h1, _⟩
   ·exact absurd hall h2
   ·exact h1
  rw [hb]
  obtain ⟨cn, hcn⟩ : ∃ cn : Nat, t.cut = cn := ⟨t.cut.toNat, by omega⟩
  have hrel := T.rel hc0 hall
  rw [hcn] at hW11 hrel ⊢
  rw [Int.toNat_natCast] at hW11 ⊢
  have h5r : roomN 5 = 537824 := rfl
  have hTt := L.told.turns (k := cn) (xs := xN t.xs) hW.stt.all (by omega) (fun x hx => by
   obtain ⟨y, hy, rfl⟩ := List.mem_map.1 hx
   have := hall y hy
   unfold XT.ok at this
   exact ⟨by simp only; omega, (T.at_ y hy).len⟩) (by unfold xN; rw [List.length_map]; have := T.lx; omega)
  have hV : (turnT key name s.st s.r s.d cn (xN t.xs)).1.2.2 = 0 → (turnT key name s.st s.r s.d cn (xN t.xs)).1.1.wf := fun h => by
   rcases hTt with ⟨_, h2⟩ | ⟨h1, _⟩
   ·exact h2.wf hW11.stt.few.1
   ·omega
  have hVl : (turnV key name s.st s.r s.d cn (xN t.xs)).length = 34 := by
   unfold turnV
   split
   ·rename_i h; exact trC_length (hV h) _
   ·rfl
  have hVo : (turnV key name s.st s.r s.d cn (xN t.xs)).all (·.oneCell') = true := by
   unfold turnV
   split
   ·exact trC_one _ _
   ·rfl
  have hVe : (turnT key name s.st s.r s.d cn (xN t.xs)).1.2.2 = 0 → turnV key name s.st s.r s.d cn (xN t.xs) = trC (turnT key name s.st s.r s.d cn (xN t.xs)).1.1 ((turnT key name s.st s.r s.d cn (xN t.xs)).1.2.1 : Int) := fun h => by unfold turnV; rw [if_pos h]
  generalize turnV key name s.st s.r s.d cn (xN t.xs) = V at *
  generalize turnS key name s.st s.r s.d cn (xN t.xs) = st2 at *
  generalize turnT key name s.st s.r s.d cn (xN t.xs) = Tt at *
  obtain ⟨⟨r2, d2, cd⟩, ch2⟩ := Tt
  simp only at hTt hV hVe ⊢
  have nD7 : ¬ Ds b7 := fun h => (hDs _ h).2.1 rfl
  have z11 := k11.size
  have l7 := L9.bt.lt
  (refine s_mv ?_; refine s_ex ?_; refine s_ex ?_)
  refine AtR_go rfl (AtG_alloc fun b22 w12 hb22 e12 => ?_)
  refine AtR_go rfl (G_skip (r_store_all (s := 34) (vs := V) rfl rfl e12.blk hVl rfl hVo) fun w13 e13 => ?_)
  have B22 : Blk w13 b22 40 (0, 0) V := e13.blk
  have k13 : Kp No w11 w13 := (e12.kp (S := No) (.inr (by omega))).trans' (e13.kp (S := fun j => j = b22) (.inl rfl)) (by rintro j rfl; right; omega)
  clear e12 e13
  have hW13 := hW11.kpn k13
  have B7' := (L9.bt.kp k11 nD7).kp k13 fun h => h
  have K13 : Kp No W w13 := (L9.K.trans' k11 fun j hj => .inr (hDs j hj).1).trans k13
  have z13 := k13.size
  rcases hTt with ⟨rfl, hT2⟩ | ⟨rfl, hT2⟩
  ·have hVe' := hVe rfl
   subst hVe'
   have hr2 := hV rfl
   have hl342 := trC_length hr2 (d2 : Int)
   have om13 := (T.om.kp k11 fun j hj hd => by
    exact nDm j hj hd).kp k13 fun _ _ h => h
   (refine s_as ?_; refine AtR_nil (At_seq (At_seq (At_region ?_))); refine s_mv ?_; refine s_mv ?_; refine s_yes rfl rfl rfl rfl ?_; refine g_mv ?_; refine s_yes rfl rfl rfl rfl ?_; refine g_lss ?_; refine s_pf ?_; refine AtR_nil ?_; refine At_cond_f rfl ?_; refine At_skip (At_seq (At_seq (At_region ?_))); refine s_mv ?_; refine s_eql ?_; refine AtR_nil ?_; refine At_cond_t rfl ?_; refine At_region ?_)
   refine s_val (x_load_all rfl B22 hl342) ?_
   (refine s_mv ?_)
   refine AtR_go rfl (G_skip (r_store_all (s := 34) (vs := trC r2 (d2 : Int)) rfl rfl B7' hl342 hl34 (trC_one _ _)) fun w14 e14 => ?_)
   have k14 : Kp (fun j => j = b7) w13 w14 := e14.kp (.inl rfl)
   have B14 : Blk w14 b7 40 (0, 0) (trC r2 (d2 : Int)) := e14.blk
   rw [hrel, toI_length, ← blC_toI] at om13
   rw [hrel, toI_length]
   have hW14 := hW13.kp k14 (by
    rintro j rfl
    refine ⟨fun hd => ?_, L.ng⟩
    rcases hD11 _ hd with h | h
    ·exact nD7 h
    ·omega)
   (refine s_as ?_; refine AtR_nil (At_seq (At_region ?_)); refine s_mv ?_; refine s_eql ?_; refine s_mv ?_; refine s_no rfl rfl rfl rfl ?_; refine s_no rfl rfl rfl rfl ?_; refine s_pt ?_; refine s_mv ?_; refine s_yes rfl rfl rfl rfl ?_; refine g_mv ?_; refine s_yes rfl rfl rfl rfl ?_; refine g_mv ?_)
   refine s_yes rfl rfl rfl rfl (g_val (x_load_all rfl B14 hl342) ?_)
   (refine s_yes rfl rfl rfl rfl ?_; refine g_mv ?_)
   refine s_yes rfl rfl rfl rfl ?_
   refine g_call x_call (same59_calls g sp bo key name st2 r2 d2 _ R 13 t.am t.cm _ hT2 (by omega) hW14 (om13.kp k14 fun j hj e => nm7 (e ▸ hj))) ?_
   rintro _ w15 ⟨rfl, k15⟩
   refine ⟨_, rfl, ?_⟩
   (refine s_pt ?_; refine s_as ?_; refine AtR_nil ?_)
   refine At_ret1 Tryd.func15 rfl (by conv => lhs; whnf) ?_
   exact ⟨rfl, ((K13.trans' k14 (by rintro j rfl; right; exact L.n7)).trans k15).below⟩
  ·have ol13 := (L9.own.kp k11 fun j hj hd => (hDs j hd).2.2 hj).kp k13 fun _ _ h => h
   (refine s_as ?_; refine AtR_nil (At_seq (At_seq (At_region ?_))); refine s_mv ?_; refine s_mv ?_; refine s_yes rfl rfl rfl rfl ?_; refine g_mv ?_; refine s_yes rfl rfl rfl rfl ?_; refine g_lss ?_; refine s_pf ?_; refine AtR_nil ?_; refine At_cond_f rfl ?_; refine At_skip (At_seq (At_seq (At_region ?_))); refine s_mv ?_; refine s_eql ?_; refine AtR_nil ?_; refine At_cond_f rfl ?_; refine At_skip (At_seq (At_region ?_)); refine s_mv ?_; refine s_eql ?_; refine s_mv ?_; refine s_yes rfl rfl rfl rfl ?_; refine g_mv ?_; refine s_yes rfl rfl rfl rfl ?_; refine g_eql ?_; refine s_pf ?_; refine s_mv ?_; refine s_yes rfl rfl rfl rfl ?_; refine g_mv ?_; refine s_yes rfl rfl rfl rfl ?_; refine g_mv ?_)
   refine s_yes rfl rfl rfl rfl (g_val (x_load_all rfl B7' hl34) ?_)
   (refine s_yes rfl rfl rfl rfl ?_; refine g_mv ?_)
   refine s_yes rfl rfl rfl rfl ?_
   refine g_call x_call (same59_calls g sp bo key name st2 s.r s.d s.l R 13 s.al s.cl _ hT2 (by omega) hW13 ol13) ?_
   rintro _ w15 ⟨rfl, k15⟩
   refine ⟨_, rfl, ?_⟩
   (refine s_pt ?_; refine s_as ?_; refine AtR_nil ?_)
   refine At_ret1 Tryd.func15 rfl (by conv => lhs; whnf) ?_
   exact ⟨rfl, (K13.trans k15).below⟩
end Go.Proofs.YtfngacepjcdlnaaDoor
namespace Go.Proofs.YtfngacepjcdlnaaDoor
open Go Go.Kx Go.Kr Go.Mt
theorem mtreeTurns_in (W : World) (hC : ∃ fz, Blk W 1 243 fz (ints .u64 (ws kSha))) (room : Int) (hroom : (Lit.int .i64 room).wf = true) (a : Option Addr) (len cap : Nat) (acs : List ActT) (hs : SlT W a len cap acs (fun b => b < W.heap.size)) (a2 : Option Addr) (len2 cap2 : Nat) (acs2 : List ActT) (hs2 : SlT W a2 len2 cap2 acs2 (fun b => b < W.heap.size)) :
  Calls Tryd.prog 15 #[.int .i64 room, .slice a len cap, .slice a2 len2 cap2] W fun e w' => e = .returned (.bool true) ∧ RowKit.Below W.heap.size W w' :=
 mtreeTurns_row W hC room (wf_i64 hroom) a len cap acs hs a2 len2 cap2 acs2 hs2
end Go.Proofs.YtfngacepjcdlnaaDoor
