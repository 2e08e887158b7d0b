/- Trees: a grove over a store; the document's example. | Trees: the document's example. -/
import Derived.Test.YtfngacepjcdlnaaDoorQMg
import Derived.Test.YtfngacepjcdlnaaDoorQMe
set_option linter.unusedVariables false
namespace Go.Mt
open Go Go.Kx Go.Proofs.YtfngacepjcdlnaaDoor
structure Wood (w : World) (g sp bo : Nat) (key name : List UInt8) (st : St) (Ds Dg : Nat → Prop) : Prop where
 gr : GroveAt w g sp bo key name Dg
 stt : StAt w sp st Ds
 sep : ∀ j, Dg j → ¬ Ds j ∧ j < w.heap.size
theorem Wood.kp {S : Nat → Prop} {w w' : World} {g sp bo : Nat} {key name : List UInt8} {st : St} {Ds Dg : Nat → Prop} (h : Wood w g sp bo key name st Ds Dg) (k : Kp S w w') (hS : ∀ j, S j → ¬ Ds j ∧ ¬ Dg j) : Wood w' g sp bo key name st Ds Dg :=
 ⟨h.gr.kp k fun j hj hs => (hS j hs).2 hj, h.stt.kp k fun j hj hs => (hS j hs).1 hj, fun j hj => ⟨(h.sep j hj).1, Nat.lt_of_lt_of_le (h.sep j hj).2 k.size⟩⟩
theorem Wood.kpn {w w' : World} {g sp bo : Nat} {key name : List UInt8} {st : St} {Ds Dg : Nat → Prop} (h : Wood w g sp bo key name st Ds Dg) (k : Kp No w w') : Wood w' g sp bo key name st Ds Dg := h.kp k fun _ hs => hs.elim
def St.new (room : Nat) : St := ⟨[], [], room⟩
theorem st_new {w : World} {sp room : Nat} (hB : Blk w sp 51 (0, 0) [.slice none 0 0, .slice none 0 0, .int .i64 (room : Int)]) (hr : room ≤ 1000) : StAt w sp (St.new room) (fun j => j = sp) :=
 ⟨⟨none, 0, none, 0, hB, Own.nil _ _ _, Own.nil _ _ _, fun j hj => by simp [blkOf] at hj, fun j hj => by simp [blkOf] at hj⟩, rfl, rfl, fun j hj => by rw [hj]; exact hB.lt, ⟨by simp [St.new], hr⟩, fun l hl => by simp [St.new] at hl⟩
theorem held_new (room : Nat) : Held (St.new room) [] := ⟨rfl, fun a => by
 unfold St.one
 rw [at_no (st := St.new room) (n := a) (by simp [St.new])]; rfl⟩
end Go.Mt
namespace Go.Proofs.YtfngacepjcdlnaaDoor
open Go Go.Kx Go.Kr Go.Mt
theorem built51 (room : Int) : Tryd.prog.built 51 [(2, .int .i64 room)] = some [Value.slice none 0 0, .slice none 0 0, .int .i64 room].toArray := by kernel_rfl
def putV (key name : List UInt8) (st : St) (r : Pr) (d i : Nat) (l : List UInt8) : List Value :=
 if (putT key name st r d i l).1.2.2 = 0 then trC (putT key name st r d i l).1.1 ((putT key name st r d i l).1.2.1 : Int) else trC Pr.zero 0
theorem Put_wood (g sp bo : Nat) (key name : List UInt8) (st : St) (r : Pr) (d i : Nat) (l : List UInt8) (a : Option Addr) (cap : Nat) (w : World) {Ds Dg Db : Nat → Prop} (h : Wood w g sp bo key name st Ds Dg) (hr : r.wf) (hd : d ≤ 5) (hi : i < roomN 5) (hl : l.length = 512)
  (hs : SlE w .u8 a 512 cap (bs8 l) Db) (hdb : ∀ j, Db j → ¬ Ds j ∧ j < w.heap.size) (hsm : st.b.length + 17 ≤ 1000000) :
  Calls Tryd.prog 25 #[.pointer (some ⟨g, 0, none⟩), .agg (trC r (d : Int)).toArray, .int .i64 (i : Int), .slice a 512 cap] w fun e w' =>
   e = .returned (.tuple #[.agg (putV key name st r d i l).toArray, .int .i64 ((putT key name st r d i l).1.2.2 : Int)]) ∧
    ∃ Ds', Wood w' g sp bo key name (putS key name st r d i l) Ds' Dg ∧ (∀ j, Ds' j → Ds j ∨ w.heap.size ≤ j) ∧ Kp Ds w w' := by
 refine (Put_calls g sp bo key name st r d i l a cap w h.gr h.stt hr hd hi hl hs hdb h.sep hsm).mono ?_
 rintro e w' ⟨he, Ds', h1, h2, h3⟩
 refine ⟨he, Ds', ⟨h.gr.kp h3 fun j hj => (h.sep j hj).1, h1, fun j hj => ⟨fun hd => ?_, Nat.lt_of_lt_of_le (h.sep j hj).2 h3.size⟩⟩, h2, h3⟩
 rcases h2 j hd with h4 | h4
 ·exact (h.sep j hj).1 h4
 ·have := (h.sep j hj).2; omega
theorem grove_wood (sp : Nat) (key name : List UInt8) (ak an : Option Addr) (ck cn : Nat) (w : World) {st : St} {Ds D D' : Nat → Prop} (hst : StAt w sp st Ds) (hC : ∃ fz, Blk w 1 243 fz (ints .u64 (ws kSha))) (hC1 : ¬ Ds 1) (hk : SlE w .u8 ak key.length ck (bs8 key) D) (hkn : ak = none → key.length = 0) (hn : SlE w .u8 an name.length cn (bs8 name) D') (hnn : an = none → name.length = 0) (hl : key.length ≤ 1000 ∧ name.length ≤ 256) :
  Calls Tryd.prog 24 #[.pointer (some ⟨sp, 0, none⟩), .slice ak key.length ck, .slice an name.length cn] w fun e w' =>
   ∃ g bo Dg, e = .returned (.pointer (some ⟨g, 0, none⟩)) ∧ Wood w' g sp bo key name st Ds Dg ∧ (∀ j, Dg j → (w.heap.size ≤ j ∧ j < w'.heap.size) ∨ j = 1) ∧ Kp No w w' := by
 refine (grove_calls sp key name ak an ck cn w hC hk hkn hn hnn hl).mono ?_
 rintro e w' ⟨g, bo, Dg, rfl, hG, hD, k⟩
 refine ⟨g, bo, Dg, rfl, ⟨hG, hst.kpn k, fun j hj => ?_⟩, hD, k⟩
 rcases hD j hj with h | rfl
 ·exact ⟨fun hd => by have := hst.dlt j hd; omega, h.2⟩
 ·obtain ⟨fz, hc⟩ := hC
  exact ⟨hC1, Nat.lt_of_lt_of_le hc.lt k.size⟩
end Go.Proofs.YtfngacepjcdlnaaDoor
namespace Go.Mt
open Go Go.Kx Go.Proofs.YtfngacepjcdlnaaDoor
theorem Tree.getT {key name : List UInt8} {st : St} {r : Pr} {d : Nat} {f : Nat → Option (List UInt8)} {S : List Nat} (h : Tree key name st r d f S) (i : Nat) : getT key name st r (d : Int) (i : Int) = (0, f i) := by
 have hd := h.le
 unfold Go.Mt.getT
 rw [if_neg (by omega), roomZ_nat hd]
 by_cases hlt : roomN d ≤ i
 ·rw [if_pos (by omega), h.out i hlt]
 ·rw [if_neg (by omega), Int.toNat_natCast, Int.toNat_natCast, h.rep.get (Nat.zero_le _) (by omega)]
theorem put_first {key name : List UInt8} {room i : Nat} (b : List UInt8) (hi : i < roomN 5) (hr : 12 ≤ room) :
  (putT key name (St.new room) Pr.zero 0 i b).1.2.2 = 0 ∧ ∃ S', Tree key name (putS key name (St.new room) Pr.zero 0 i b) (putT key name (St.new room) Pr.zero 0 i b).1.1 (putT key name (St.new room) Pr.zero 0 i b).1.2.1 (upd (fun _ => none) i (some b)) S' ∧ Held (putS key name (St.new room) Pr.zero 0 i b) S' ∧
   i < roomN (putT key name (St.new room) Pr.zero 0 i b).1.2.1 ∧ ((putT key name (St.new room) Pr.zero 0 i b).1.2.1 = 0 ∨ 0 < (putT key name (St.new room) Pr.zero 0 i b).1.2.1 ∧ roomN ((putT key name (St.new room) Pr.zero 0 i b).1.2.1 - 1) ≤ i) := by
 obtain ⟨_, _, _, h⟩ := putT_rep (X := []) (b := b) (tree_nil key name (St.new room)) (held_new room) hi (by simp [St.new])
 rcases h with ⟨h1, S', h2, h3, h4, h5⟩ | ⟨_, _, _, h⟩
 ·exact ⟨h1, S', h2, by simpa using h3, h4, h5⟩
 ·have e1 : (St.new room).room = room := rfl
  have e2 : (St.new room).count = 0 := rfl
  omega
end Go.Mt
namespace Go.Proofs.YtfngacepjcdlnaaDoor
open Go Go.Kx Go.Kr Go.Mt
theorem optAt_kpn {w w1 w2 : World} {x : Option (List UInt8)} {v : Value} (h : OptAt w w1 x v) (k : Kp No w1 w2) : OptAt w w2 x v := by
 unfold OptAt at *
 cases x with
 | none => exact h
 | some l => obtain ⟨b, cap, h1, h2, h3, h4⟩ := h; exact ⟨b, cap, h1, h2.kpn k, h3, h4⟩
set_option maxRecDepth 100000 in
set_option maxHeartbeats 16000000 in
theorem awake16_calls (w : World) (hC : ∃ fz, Blk w 1 243 fz (ints .u64 (ws kSha))) : Calls Tryd.prog 23 #[] w fun e w' => e = .returned (.bool true) ∧ Kp No w w' := by
 refine calls_at (n := 63) Tryd.func23 rfl rfl (by simp) ?_
 have hC1 : 1 < w.heap.size := by obtain ⟨fz, hc⟩ := hC; exact hc.lt
 have hCk : ∀ {w'}, Kp No w w' → ∃ fz, Blk w' 1 243 fz (ints .u64 (ws kSha)) := fun k => by obtain ⟨fz, hc⟩ := hC; exact ⟨fz, hc.kp k fun h => h⟩
 (refine At_seq (At_region ?_); refine s_as ?_; refine AtR_nil (At_seq ?_); refine At_region ?_)
 refine s_val (x_build rfl (built51 20)) ?_
 refine AtR_go rfl (AtG_box rfl fun sp w1 hsp e1 => ?_)
 have SP : Blk w1 sp 51 (0, 0) [.slice none 0 0, .slice none 0 0, .int .i64 ((20 : Nat) : Int)] := e1.blk
 have k1 : Kp No w w1 := e1.kp (.inr (by omega))
 have hst1 := st_new SP (by omega)
 clear e1
 refine AtR_go rfl (AtG_buildSlice1 (ops := [_]) rfl rfl (by omega) rfl rfl rfl fun b10 w2 hb10 e2 => ?_)
 have B10 : Blk w2 b10 5 (0, 0) (ints .u8 (bs8 [107])) := e2.blk
 have k2 : Kp No w1 w2 := e2.kp (.inr (by omega))
 clear e2
 have l10 := B10.lt
 refine AtR_go rfl (G_val (r_conv_same rfl B10) ?_)
 rintro _ w2a ⟨rfl, ⟨f10, B10a⟩, k2a⟩
 refine AtR_go rfl (AtG_buildSlice1 (ops := [_]) rfl rfl (by omega) rfl rfl rfl fun b12 w3 hb12 e3 => ?_)
 have B12 : Blk w3 b12 5 (0, 0) (ints .u8 (bs8 [110])) := e3.blk
 have k3 : Kp No w2a w3 := e3.kp (.inr (by omega))
 clear e3
 refine AtR_go rfl (G_val (r_conv_same rfl B12) ?_)
 rintro _ w3a ⟨rfl, ⟨f12, B12a⟩, k3a⟩
 have z1 := k1.size
 have z2 := k2.size
 have z2a := k2a.size
 have z3 := k3.size
 have K2a : Kp No w1 w2a := k2.trans' k2a (by rintro j rfl; right; omega)
 have K3 : Kp No w1 w3a := (K2a.trans k3).trans' k3a (by rintro j rfl; right; omega)
 have h1012 : b10 ≠ b12 := by omega
 have B10b := (B10a.kp k3 fun h => h).kp k3a h1012
 refine s_call x_call (grove_wood sp [107] [110] (some ⟨b10, 0, none⟩) (some ⟨b12, 0, none⟩) 1 1 _ (hst1.kpn K3) (hCk (k1.trans K3)) (by omega) ((B10b.sl (m := 1) rfl (by omega)).e (D := fun _ => True) fun _ _ => trivial) (fun h => by cases h) ((B12a.sl (m := 1) rfl (by omega)).e (D := fun _ => True) fun _ _ => trivial) (fun h => by cases h) ⟨by simp, by simp⟩) ?_
 rintro _ w4 ⟨g, bo, Dg, rfl, hW, hDg, k4⟩
 refine ⟨_, rfl, ?_⟩
 (refine s_as ?_; refine AtR_nil (At_seq (At_seq (At_region ?_))); refine s_mv ?_; refine s_eqlp ?_; refine AtR_nil ?_; refine At_cond_f rfl ?_; refine At_skip (At_seq (At_region ?_)); refine s_mv ?_)
 refine s_val (x_build (by first | rfl | exact rfl) built40_nil) ?_
 refine s_call x_call (block_calls 1 _) ?_
 rintro _ w5 ⟨bb, rfl, hob, hbb, k5⟩
 refine ⟨_, rfl, ?_⟩
 have hsb : SlE w5 .u8 (some ⟨bb, 0, none⟩) 512 512 (bs8 (blockB 1)) (fun j => j = bb) := hob.sl.e fun j hj => by simpa [blkOf] using hj.symm
 have lbb : bb < w5.heap.size := hob.lt bb rfl
 have z4 := k4.size
 have z3a := k3a.size
 have hW5 := hW.kpn k5
 skip
 refine s_call x_call (Put_wood g sp bo [107] [110] (St.new 20) Pr.zero 0 20 (blockB 1) _ 512 _ hW5 zero_wf (by omega) (by decide) (blockB_length 1) hsb (by rintro j rfl; exact ⟨by omega, lbb⟩) (by simp [St.new])) ?_
 obtain ⟨hc0, S', hT, hH, hlt, hdd⟩ := put_first (key := [107]) (name := [110]) (room := 20) (i := 20) (blockB 1) (by decide) (by omega)
 have hpv : putV [107] [110] (St.new 20) Pr.zero 0 20 (blockB 1) = trC (putT [107] [110] (St.new 20) Pr.zero 0 20 (blockB 1)).1.1 ((putT [107] [110] (St.new 20) Pr.zero 0 20 (blockB 1)).1.2.1 : Int) := by unfold putV; rw [if_pos hc0]
 rw [hpv, hc0]
 clear hpv hc0
 generalize putS [107] [110] (St.new 20) Pr.zero 0 20 (blockB 1) = st2 at *
 generalize putT [107] [110] (St.new 20) Pr.zero 0 20 (blockB 1) = R at *
 obtain ⟨⟨r, d, cd⟩, ch⟩ := R
 simp only at hT hlt hdd ⊢
 have hd2 : d = 2 := by
  have hd5 := hT.le
  match d, hd5, hlt, hdd with
  | 0, _, h, _ => exact absurd h (by decide)
  | 1, _, h, _ => exact absurd h (by decide)
  | 2, _, _, _ => rfl
  | 3, _, _, h => exact absurd h (by decide)
  | 4, _, _, h => exact absurd h (by decide)
  | 5, _, _, h => exact absurd h (by decide)
 subst hd2
 rintro _ w6 ⟨rfl, Ds6, hW6, hD6, k6⟩
 refine ⟨_, rfl, ?_⟩
 have hr : r.wf := hT.wf hW6.stt.few.1
 have hr34 := trC_length hr ((2 : Nat) : Int)
 have z5 := k5.size
 have z6 := k6.size
 (refine s_mv ?_; refine s_ex ?_; refine s_ex ?_)
 refine AtR_go rfl (AtG_alloc fun b2 w7 hb2 e7 => ?_)
 refine AtR_go rfl (G_skip (r_store_all (s := 34) (vs := trC r ((2 : Nat) : Int)) rfl rfl e7.blk hr34 rfl (by unfold trC; rw [List.all_append, prC_one]; rfl)) fun w8 e8 => ?_)
 have B2 : Blk w8 b2 40 (0, 0) (trC r ((2 : Nat) : Int)) := e8.blk
 have k8 : Kp No w6 w8 := (e7.kp (S := No) (.inr (by omega))).trans' (e8.kp (S := fun j => j = b2) (.inl rfl)) (by rintro j rfl; right; omega)
 have hW8 := hW6.kpn k8
 have z8 := k8.size
 have K8 : Kp No w w8 := (((((k1.trans K3).trans k4).trans k5).trans' k6 (by rintro j rfl; right; omega)).trans k8)
 clear e7 e8
 (refine s_as ?_; refine AtR_nil (At_seq (At_region ?_)); refine s_mv ?_)
 refine s_val (x_load_all rfl B2 hr34) ?_
 refine s_call x_call (Get_calls g sp bo [107] [110] st2 r ((2 : Nat) : Int) ((20 : Nat) : Int) _ hW8.gr hW8.stt hr (by omega) (by omega)) ?_
 rw [hT.getT 20]
 rintro _ w9 ⟨k9, v, rfl, hv⟩
 refine ⟨_, rfl, ?_⟩
 obtain ⟨bv, cv, rfl, hsv, hbv, _⟩ : OptAt w8 w9 (some (blockB 1)) v := hv
 have hW9 := hW8.kpn k9
 have B29 := B2.kp k9 fun h => h
 (refine s_mv ?_; refine s_ex ?_; refine s_ex ?_; refine s_as ?_; refine s_as ?_; refine AtR_nil (At_seq (At_region ?_)); refine s_mv ?_)
 refine s_val (x_load_all rfl B29 hr34) ?_
 refine s_call x_call (Get_calls g sp bo [107] [110] st2 r ((2 : Nat) : Int) ((3 : Nat) : Int) _ hW9.gr hW9.stt hr (by omega) (by omega)) ?_
 rw [hT.getT 3]
 rintro _ w10 ⟨k10, v3, rfl, hv3⟩
 refine ⟨_, rfl, ?_⟩
 obtain rfl : v3 = .slice none 0 0 := hv3
 have B210 := B29.kp k10 fun h => h
 have hsv10 := hsv.kpn k10
 have hdeep := trC_deep hr ((2 : Nat) : Int)
 (refine s_mv ?_; refine s_ex ?_; refine s_ex ?_; refine s_as ?_; refine s_as ?_; refine AtR_nil (At_seq ?_))
 have kd := Kp.drew (S := No) (w := w10)
 have K10 : Kp No w w10.drew := ((K8.trans k9).trans k10).trans kd
 let S : World → Prop := fun w' => Blk w' b2 40 (0, 0) (trC r ((2 : Nat) : Int)) ∧ Sl w' .u8 (some ⟨bv, 0, none⟩) 512 cv (bs8 (blockB 1))
 have hS : S w10.drew := ⟨B210.kp kd fun h => h, hsv10.kpn kd⟩
 refine At_draw S rfl ?_
 (apply AtH_take 0 rfl (by decide +kernel) (by exact rfl); (focus (intro wx hx; skip; exact x_move (by conv => lhs; whnf))); (focus (exact hS)))
 (apply AtH_bool 1 rfl (by decide +kernel) (by exact rfl); (focus (intro wx hx; skip; exact x_eql rfl rfl)); (focus (exact decide_eq_true (by omega))); (focus (exact hS)))
 (apply AtH_take 2 rfl (by decide +kernel) (by exact rfl); (focus (intro wx hx; skip; exact x_move (by conv => lhs; whnf))); (focus (exact hS)))
 (apply AtH_take 3 rfl (by decide +kernel) (by exact ⟨_, _, rfl, by decide, rfl, rfl⟩); (focus (intro wx hx; skip; exact x_move (by conv => lhs; whnf))); (focus (exact hS)))
 (apply AtH_bool 4 rfl (by decide +kernel) (by exact ⟨_, _, rfl, by decide, rfl, rfl⟩); (focus (intro wx hx; skip; exact x_eql rfl rfl)); (focus (exact decide_eq_true (by omega))); (focus (exact hS)))
 (apply AtH_take 5 rfl (by decide +kernel) (by exact rfl); (focus (intro wx hx; skip; exact x_pick_t rfl (by conv => lhs; whnf))); (focus (exact hS)))
 (apply AtH_take 6 rfl (by decide +kernel) (by exact rfl); (focus (intro wx hx; skip; exact x_move (by conv => lhs; whnf))); (focus (exact hS)))
 (apply AtH_take 7 rfl (by decide +kernel) (by exact ⟨_, _, rfl, by decide, rfl, rfl⟩); (focus (intro wx hx; skip; exact x_move (by conv => lhs; whnf))); (focus (exact hS)))
 (apply AtH_bool 8 rfl (by decide +kernel) (by exact ⟨_, _, rfl, by decide, rfl, rfl⟩); (focus (intro wx hx; skip; exact x_eql rfl rfl)); (focus (exact decide_eq_true (by omega))); (focus (exact hS)))
 (apply AtH_take 9 rfl (by decide +kernel) (by exact rfl); (focus (intro wx hx; skip; exact x_pick_t rfl (by conv => lhs; whnf))); (focus (exact hS)))
 (apply AtH_take 10 rfl (by decide +kernel) (by exact rfl); (focus (intro wx hx; skip; exact x_move (by conv => lhs; whnf))); (focus (exact hS)))
 (apply AtH_take 11 rfl (by decide +kernel) (by exact ⟨_, _, rfl, by decide, rfl, rfl⟩); (focus (intro wx hx; skip; exact x_fieldAddrN rfl (by first | exact Nat.zero_add _ | exact Nat.add_zero _ | (simp only [Nat.reduceAdd] <;> rfl) | exact rfl))); (focus (exact hS)))
 refine AtH_take 12 rfl (by decide +kernel) (by exact ⟨_, _, rfl, by decide, rfl, rfl⟩) (fun wx hx => x_load1 rfl hx.1 hdeep) hS ?_
 (apply AtH_bool 13 rfl (by decide +kernel) (by exact ⟨_, _, rfl, by decide, rfl, rfl⟩); (focus (intro wx hx; skip; exact x_eql rfl rfl)); (focus (exact decide_eq_true (by omega))); (focus (exact hS)))
 (apply AtH_take 14 rfl (by decide +kernel) (by exact rfl); (focus (intro wx hx; skip; exact x_pick_t rfl (by conv => lhs; whnf))); (focus (exact hS)))
 (apply AtH_take 15 rfl (by decide +kernel) (by exact rfl); (focus (intro wx hx; skip; exact x_move (by conv => lhs; whnf))); (focus (exact hS)))
 (apply AtH_take 16 rfl (by decide +kernel) (by exact ⟨_, _, rfl, by decide, rfl, rfl⟩); (focus (intro wx hx; skip; exact x_move (by conv => lhs; whnf))); (focus (exact hS)))
 refine AtH_take 17 rfl (by decide +kernel) (by exact ⟨_, _, rfl, by decide, rfl, rfl⟩) (fun wx hx => x_conv_bs rfl (hx.2.e (D := fun _ => True) fun _ _ => trivial)) hS ?_
 refine AtH_call 18 rfl (by decide +kernel) (by exact ⟨_, _, rfl, by decide, rfl, rfl⟩) x_call  (block_calls 1 _) ?_
 rintro _ w11 ⟨bc, rfl, hoc, hbc, k11⟩
 have hS11 : S w11 := ⟨hS.1.kp k11 fun h => h, hS.2.kpn k11⟩
 refine ⟨_, rfl, hS11, ?_⟩
 clear hS
 have hS := hS11
 refine AtH_val 19 rfl (by decide +kernel) (by exact ⟨_, _, rfl, by decide, rfl, rfl⟩) (x_conv_bs rfl (hoc.sl.e (D := fun _ => True) fun _ _ => trivial)) hS ?_
 refine AtH_val 20 rfl (by decide +kernel) (by exact ⟨_, _, rfl, by decide, rfl, rfl⟩) (x_eql_str rfl rfl) hS ?_
 rw [show decide (blockB 1 = blockB 1) = true from decide_eq_true rfl]
 (apply AtH_take 21 rfl (by decide +kernel) (by exact rfl); (focus (intro wx hx; skip; exact x_pick_t rfl (by conv => lhs; whnf))); (focus (exact hS)))
 (apply AtH_take 22 rfl (by decide +kernel) (by exact rfl); (focus (intro wx hx; skip; exact x_move (by conv => lhs; whnf))); (focus (exact hS)))
 (apply AtH_take 23 rfl (by decide +kernel) (by exact ⟨_, _, rfl, by decide, rfl, rfl⟩); (focus (intro wx hx; skip; exact x_move (by conv => lhs; whnf))); (focus (exact hS)))
 (apply AtH_take 24 rfl (by decide +kernel) (by exact ⟨_, _, rfl, by decide, rfl, rfl⟩); (focus (intro wx hx; skip; exact x_len_slice rfl)); (focus (exact hS)))
 (apply AtH_bool 25 rfl (by decide +kernel) (by exact ⟨_, _, rfl, by decide, rfl, rfl⟩); (focus (intro wx hx; skip; exact x_eql rfl rfl)); (focus (exact decide_eq_true (by omega))); (focus (exact hS)))
 (apply AtH_take 26 rfl (by decide +kernel) (by exact rfl); (focus (intro wx hx; skip; exact x_pick_t rfl (by conv => lhs; whnf))); (focus (exact hS)))
 (apply AtH_take 27 rfl (by decide +kernel) (by exact rfl); (focus (intro wx hx; skip; exact x_assign (by conv => lhs; whnf))); (focus (exact hS)))
 refine AtH_done (by decide +kernel) ?_
 skip
 refine At_ret1 Tryd.func23 rfl (by conv => lhs; whnf) ?_
 exact ⟨rfl, K10.trans k11⟩
end Go.Proofs.YtfngacepjcdlnaaDoor
