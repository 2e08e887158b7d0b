/- Trees: a tree made deeper. | Trees: the end of a turn; a block put into a tree. | Trees: what a put leaves, plainly. | Trees: Put. | Trees: a law's block. | Trees: a grove made. | Trees: a law's grove. -/
import Derived.Test.YtfngacepjcdlnaaDoorQMd
import Derived.Stop.IfaceNil
set_option linter.unusedVariables false
namespace Go.Mt
open Go Go.Kx Go.Proofs.YtfngacepjcdlnaaDoor
def above (r : Pr) : List Pr := r :: List.replicate 13 Pr.zero
theorem above_wf {r : Pr} (h : r.wf) : ∀ p ∈ above r, p.wf := fun p hp => by
 rcases List.mem_cons.1 hp with rfl | hp
 ·exact h
 ·rw [List.eq_of_mem_replicate hp]; exact zero_wf
def deepP (key name : List UInt8) (i : Nat) : Nat → Nat → Pr → Ch → (Pr × Nat × Nat) × Ch
 | 0, d, r, ch => ((r, d, 0), ch)
 | f + 1, d, r, ch =>
  if i < roomN d then ((r, d, 0), ch) else
  if (ch.node key name (d + 1) 0 (above r)).1.2 = 0 then deepP key name i f (d + 1) (ch.node key name (d + 1) 0 (above r)).1.1 (ch.node key name (d + 1) 0 (above r)).2
  else ((Pr.zero, 0, (ch.node key name (d + 1) 0 (above r)).1.2), (ch.node key name (d + 1) 0 (above r)).2)
theorem trC_set {r : Pr} (h : r.wf) (d d' : Int) : (trC r d).set 33 (.int .i64 d') = trC r d' := by
 unfold trC
 rw [List.set_append_right _ _ (by rw [prC_length h]; omega), prC_length h]
 rfl
theorem trC_lay {r q : Pr} (h : r.wf) (hq : q.wf) (d : Int) : lay (trC r d) 0 (prC q) = trC q d := by
 unfold lay trC
 rw [List.take_zero, List.nil_append, Nat.zero_add, prC_length hq, List.drop_left' (prC_length h)]
end Go.Mt
namespace Go.Proofs.YtfngacepjcdlnaaDoor
open Go Go.Kx Go.Kr Go.Mt
theorem trC_seg {w : World} {b : Nat} {r : Pr} {d : Int} (hB : Blk w b 40 (0, 0) (trC r d)) : Seg w b 0 (prC r) := fun j hj => by
 rw [Nat.zero_add, hB.cell, trC, List.getElem?_append_left hj]
theorem built157_v (v : List (Nat × Value)) : Tryd.prog.built 157 v = Instr.fill (fun i => some (i * 33, 33)) z157.toArray v := by kernel_rfl
theorem built157_a {r : Pr} (h : r.wf) : Tryd.prog.built 157 [(0, .agg (prC r).toArray)] = some (psC (above r)).toArray := by
 have hz : z157.length = 462 := by rw [← psC_zeros]; exact psC_len zeros_wf rfl
 rw [built157_v, fill_agg (i := 0) (off := 0) (s := 33) rfl (prC_length h) (by omega)]
 have e : lay z157 0 (prC r) = psC (above r) := by
  have := psC_lay (ps := zeros) (i := 0) (q := r) (by decide) zeros_wf h
  rw [psC_zeros] at this
  exact this
 rw [e]; rfl
theorem built40_nil : Tryd.prog.built 40 [] = some (trC Pr.zero 0).toArray := by kernel_rfl
set_option maxRecDepth 100000 in
set_option maxHeartbeats 16000000 in
theorem deepen_calls (c g sp bo : Nat) (key name : List UInt8) (ch0 : Ch) (r0 : Pr) (d0 i : Nat) (w : World) {Ds Dc Dg : Nat → Prop} (h : ChAt w c g sp bo key name ch0 Ds Dc Dg) (hr : r0.wf) (hd : d0 ≤ 5) (hi : i < roomN 5) (hsm : Small ch0 (5 - d0)) :
  Calls Tryd.prog 73 #[.pointer (some ⟨c, 0, none⟩), .agg (trC r0 (d0 : Int)).toArray, .int .i64 (i : Int)] w fun e w' =>
   e = .returned (.tuple #[.agg (trC (deepP key name i (5 - d0) d0 r0 ch0).1.1 ((deepP key name i (5 - d0) d0 r0 ch0).1.2.1 : Int)).toArray, .int .i64 ((deepP key name i (5 - d0) d0 r0 ch0).1.2.2 : Int)]) ∧ ChTo w w' c g sp bo key name Ds Dc Dg (deepP key name i (5 - d0) d0 r0 ch0).2 := by
 refine calls_at (n := 37) Tryd.func73 rfl rfl (by simp) ?_
 have hi5 : roomN 5 = 537824 := rfl
 (refine At_seq (At_region ?_))
 refine AtR_go rfl (AtG_box rfl fun b4 w1 hb4 e1 => ?_)
 have B4 : Blk w1 b4 40 (0, 0) (trC r0 (d0 : Int)) := e1.blk
 have k1 : Kp No w w1 := e1.kp (.inr (by omega))
 clear e1
 refine AtR_go rfl (AtG_alloc fun b6 w2 hb6 e2 => ?_)
 have B6 : Blk w2 b6 40 (0, 0) z40 := e2.blk
 have k2 : Kp No w1 w2 := e2.kp (.inr (by omega))
 have z1 := k1.size
 have l4 := B4.lt
 clear e2
 have K := k1.trans k2
 have hno : ∀ j, w.heap.size ≤ j → ¬ Ds j ∧ ¬ Dc j := fun j hj => ⟨fun hd => by have := h.stt.dlt j hd; omega, fun hd => by have := h.clt j hd; omega⟩
 have hnog : ∀ j, w.heap.size ≤ j → ¬ Dg j := fun j hj hd => by have := h.glt j hd; omega
 have h46 : b4 ≠ b6 := by omega
 have hz40 : z40.length = 34 := rfl
 have z2 := K.size
 (refine s_as ?_; refine AtR_nil (At_seq ?_); refine At_block ?_)
 refine At_while (fun s : Nat => [(0, .pointer (some ⟨c, 0, none⟩)), (2, .int .i64 (i : Int)), (4, .pointer (some ⟨b4, 0, none⟩)), (6, .pointer (some ⟨b6, 0, none⟩))])
  (fun d w' => ∃ r ch Ds' Dc', d ≤ 5 ∧ r.wf ∧ deepP key name i (5 - d0) d0 r0 ch0 = deepP key name i (5 - d) d r ch ∧ Small ch (5 - d) ∧ ChAt w' c g sp bo key name ch Ds' Dc' Dg ∧ Blk w' b4 40 (0, 0) (trC r (d : Int)) ∧ Blk w' b6 40 (0, 0) z40 ∧ (¬ Ds' b4 ∧ ¬ Dc' b4) ∧ (¬ Ds' b6 ∧ ¬ Dc' b6) ∧ (∀ j, Ds' j ∨ Dc' j → Ds j ∨ Dc j ∨ w.heap.size ≤ j) ∧ Kp (fun j => Ds j ∨ Dc j) w w')
  (fun d => 5 - d) d0 ⟨rfl, rfl, rfl, rfl, trivial⟩ ⟨r0, ch0, Ds, Dc, hd, hr, rfl, hsm, h.kpn K, B4.kp k2 (fun h => h), B6, hno _ (by omega), hno _ (by omega), fun j hj => hj.elim .inl fun h => .inr (.inl h), K.mono fun _ h => h.elim⟩ ?_
 clear B4 B6
 rintro d w3 junk ⟨r, ch, Ds3, Dc3, hd5, hrw, heq, hsm3, h3, B4, B6, n4, n6, hD3, K3⟩ again
 have hrl := roomN_le hd5
 have heq0 := heq
 have hdeep := trC_deep hrw (d : Int)
 have z3 := K3.size
 (refine At_seq (At_seq (At_region ?_)); refine s_mv ?_; refine s_fa ?_)
 refine s_val (x_load1 rfl B4 hdeep) ?_
 refine s_call x_call (room_calls (d : Int) _ (by omega)) ?_
 rintro _ _ ⟨rfl, rfl⟩
 refine ⟨_, rfl, ?_⟩
 rw [roomZ_nat hd5]
 by_cases hlt : i < roomN d
 ·have he : deepP key name i (5 - d) d r ch = ((r, d, 0), ch) := by
   cases h5 : 5 - d with
   | zero => rw [deepP]
   | succ f => rw [deepP, if_pos hlt]
  have hl34 := trC_length hrw (d : Int)
  (refine s_geq ?_; refine AtR_nil ?_; refine At_cond_f rfl ?_; refine At_exit rfl ?_; refine At_seq (At_region ?_))
  refine s_val (x_load_all rfl B4 hl34) ?_
  refine AtR_go rfl (G_skip (r_store_all (s := 34) (vs := trC r (d : Int)) rfl rfl B6 hl34 rfl ?_) fun w4 e4 => ?_)
  ·unfold trC; rw [List.all_append, prC_one]; rfl
  (refine s_as ?_; refine AtR_nil ?_)
  have k4 : Kp (fun j => j = b6) w3 w4 := e4.kp (.inl rfl)
  refine At_ret_cell2 (s := 34) Tryd.func73 rfl rfl e4.blk hl34 rfl ?_
  rw [heq0, he]
  exact ⟨rfl, Ds3, Dc3, h3.kp k4 (by rintro j rfl; exact ⟨n6.1, n6.2, hnog _ (by omega)⟩), hD3, K3.trans' k4 (by rintro j rfl; right; omega)⟩
 have hd4 : d < 5 := by
  rcases Nat.lt_or_ge d 5 with h' | h'
  ·exact h'
  ·have : d = 5 := by omega
   subst this; omega
 obtain ⟨f, hf⟩ : ∃ f, 5 - d = f + 1 := ⟨5 - d - 1, by omega⟩
 have hf1 : f = 5 - (d + 1) := by omega
 have he : deepP key name i (5 - d) d r ch = if (ch.node key name (d + 1) 0 (above r)).1.2 = 0 then deepP key name i f (d + 1) (ch.node key name (d + 1) 0 (above r)).1.1 (ch.node key name (d + 1) 0 (above r)).2 else ((Pr.zero, 0, (ch.node key name (d + 1) 0 (above r)).1.2), (ch.node key name (d + 1) 0 (above r)).2) := by
  rw [hf, deepP, if_neg hlt]
 (refine s_geq ?_; refine AtR_nil ?_; refine At_cond_t rfl ?_; refine At_skip (At_block (At_seq (At_region ?_))); refine s_fa ?_)
 refine s_val (x_load1 rfl B4 hdeep) ?_
 (refine s_ad ?_; refine s_fa ?_)
 refine AtR_go rfl (G_skip (r_store1 (v := .int .i64 ((d : Int) + 1)) rfl rfl B4 (by rw [trC_length hrw]; omega) rfl rfl) fun w4 e4 => ?_)
 have B4a : Blk w4 b4 40 (0, 0) (trC r ((d + 1 : Nat) : Int)) := by
  have := e4.blk
  rw [trC_set hrw] at this
  exact this
 have k4 : Kp (fun j => j = b4) w3 w4 := e4.kp (.inl rfl)
 have h4 := h3.kp k4 (by rintro j rfl; exact ⟨n4.1, n4.2, hnog _ (by omega)⟩)
 have B6a := B6.kp k4 (fun e => h46 e.symm)
 have K4 := K3.trans' k4 (by rintro j rfl; right; omega)
 have z4 := k4.size
 clear e4 k4
 have hdeep4 := trC_deep hrw ((d + 1 : Nat) : Int)
 (refine AtR_nil (At_seq (At_region ?_)); refine s_mv ?_; refine s_fa ?_)
 refine s_val (x_load_segN rfl (trC_seg B4a) (prC_length hrw)) ?_
 refine s_val (x_build rfl (built157_a hrw)) ?_
 (refine s_fa ?_)
 refine s_val (x_load1 rfl B4a hdeep4) ?_
 refine s_val (x_build rfl (built153 ((d + 1 : Nat) : Int) 0)) ?_
 refine s_call x_call (node_calls c g sp bo key name ch (above r) (d + 1) 0 _ h4 (above_wf hrw) rfl (by omega) (by omega) (hsm3.mono (by omega))) ?_
 have hqw := node_wf key name (d + 1) 0 (above r) (hsm3.mono (show 1 ≤ 5 - d by omega))
 have hqs := Small.node key name (d + 1) 0 (above r) (n := 5 - (d + 1)) (hsm3.mono (by omega))
 generalize ch.node key name (d + 1) 0 (above r) = res at *
 obtain ⟨⟨q, cd⟩, ch'⟩ := res
 rintro _ w5 ⟨rfl, Ds5, Dc5, h5, hD5, k5⟩
 refine ⟨_, rfl, ?_⟩
 simp only at hqw hqs ⊢
 have hq33 := prC_length hqw
 have B4b := B4a.kp k5 (out_kp n4)
 have B6b := B6a.kp k5 (out_kp n6)
 have l4b := B4a.lt
 have l6b := B6a.lt
 have n4' := out_of hD5 n4 l4b
 have n6' := out_of hD5 n6 l6b
 have hD5w := chain_D hD5 hD3 (by omega)
 have K5 := chain_K K4 k5 hD3
 have z5 := k5.size
 (refine s_mv ?_; refine s_ex ?_; refine s_ex ?_)
 refine AtR_go rfl (AtG_alloc fun b8 w6 hb8 e6 => ?_)
 refine AtR_go rfl (G_skip (r_store_all (s := 33) (vs := prC q) rfl rfl e6.blk hq33 rfl (prC_one _)) fun w7 e7 => ?_)
 have B8 : Blk w7 b8 38 (0, 0) (prC q) := e7.blk
 have k7 : Kp No w5 w7 := (e6.kp (S := No) (.inr (by omega))).trans' (e7.kp (S := fun j => j = b8) (.inl rfl)) (by rintro j rfl; right; omega)
 clear e6 e7
 have h7 := h5.kpn k7
 have B4c := B4b.kp k7 fun h => h
 have B6c := B6b.kp k7 fun h => h
 have K7 := K5.trans (k7.mono fun _ h => h.elim)
 have z7 := K7.size
 (refine s_as ?_; refine AtR_nil (At_seq (At_seq (At_region ?_))); refine s_mv ?_)
 by_cases hcd : cd = 0
 ·subst hcd
  (refine s_neq ?_; refine AtR_nil ?_; refine At_cond_f rfl ?_; refine At_skip (At_region ?_))
  refine s_val (x_load_all rfl B8 hq33) ?_
  (refine s_fa ?_)
  refine AtR_go rfl (G_skip (r_storeN (cs := trC r ((d + 1 : Nat) : Int)) (vs := prC q) rfl rfl B4c hq33 (by rw [trC_length hrw]; omega) (prC_one _)) fun w8 e8 => ?_)
  rw [trC_lay hrw hqw] at e8
  have k8 : Kp (fun j => j = b4) w7 w8 := e8.kp (.inl rfl)
  (refine AtR_nil (At_inBlock ?_))
  refine again (d + 1) _ _ ⟨rfl, rfl, rfl, rfl, trivial⟩ ⟨q, ch', Ds5, Dc5, by omega, hqw, by rw [heq0, he, if_pos rfl, hf1], hqs, h7.kp k8 (by rintro j rfl; exact ⟨n4'.1, n4'.2, hnog _ (by omega)⟩), e8.blk, B6c.kp k8 (fun e => h46 e.symm), n4', n6', hD5w, K7.trans' k8 (by rintro j rfl; right; omega)⟩ (by omega)
 ·(refine s_neq ?_; refine AtR_nil ?_; refine At_cond_t rfl ?_; refine At_seq (At_region ?_))
  refine s_val (x_build rfl built40_nil) ?_
  (refine s_mv ?_)
  refine AtR_go rfl (G_skip (r_store_all (s := 34) (vs := trC Pr.zero 0) rfl rfl B6c rfl rfl rfl) fun w8 e8 => ?_)
  (refine s_as ?_; refine AtR_nil ?_)
  have k8 : Kp (fun j => j = b6) w7 w8 := e8.kp (.inl rfl)
  refine At_ret_cell2 (s := 34) Tryd.func73 rfl rfl e8.blk rfl rfl ?_
  rw [heq0, he, if_neg hcd]
  exact ⟨rfl, Ds5, Dc5, h7.kp k8 (by rintro j rfl; exact ⟨n6'.1, n6'.2, hnog _ (by omega)⟩), hD5w, K7.trans' k8 (by rintro j rfl; right; omega)⟩
end Go.Proofs.YtfngacepjcdlnaaDoor
namespace Go.Mt
open Go Go.Kx Go.Proofs.YtfngacepjcdlnaaDoor
def dropAll (st : St) (l : List Nat) : St := l.foldl St.drop st
theorem drop_b (st : St) (n : Nat) : (st.drop n).b = st.b ∧ (st.drop n).room = st.room := by
 unfold St.drop
 split <;> exact ⟨rfl, rfl⟩
theorem dropAll_snoc (st : St) (l : List Nat) (i : Nat) (h : i < l.length) : dropAll st (l.take (i + 1)) = (dropAll st (l.take i)).drop l[i] := by
 rw [List.take_succ_eq_append_getElem h, dropAll, List.foldl_append]
 rfl
def Ch.goes (ch : Ch) (cd : Nat) : List Nat := if cd = 0 then ch.gone else ch.saved
end Go.Mt
namespace Go.Proofs.YtfngacepjcdlnaaDoor
open Go Go.Kx Go.Kr Go.Mt
set_option maxRecDepth 100000 in
set_option maxHeartbeats 16000000 in
theorem end_calls (c g sp bo : Nat) (key name : List UInt8) (ch : Ch) (r : Pr) (d : Int) (cd : Nat) (w : World) {Ds Dc Dg : Nat → Prop} (h : ChAt w c g sp bo key name ch Ds Dc Dg) (hr : r.wf) (hn : (∀ n ∈ ch.gone, n < 9223372036854775808) ∧ ∀ n ∈ ch.saved, n < 9223372036854775808) :
  Calls Tryd.prog 75 #[.pointer (some ⟨c, 0, none⟩), .agg (trC r d).toArray, .int .i64 (cd : Int)] w fun e w' =>
   e = .returned (.tuple #[.agg (if cd = 0 then trC r d else trC Pr.zero 0).toArray, .int .i64 (cd : Int)]) ∧
    StAt w' sp (dropAll ch.st (ch.goes cd)) Ds ∧ Kp (fun j => Ds j ∨ Dc j) w w' := by
 refine calls_at (n := 41) Tryd.func75 rfl rfl (by simp) ?_
 have hl34 := trC_length hr d
 obtain ⟨av, cv, ag, cg, hR, hOv, hOg, hDv, hDg, hvg⟩ := h.row
 obtain ⟨ak, ck, an, cn, hG, _⟩ := h.gr.row
 (refine At_seq (At_region ?_))
 refine AtR_go rfl (AtG_box rfl fun b4 w1 hb4 e1 => ?_)
 have B4 : Blk w1 b4 40 (0, 0) (trC r d) := e1.blk
 have k1 : Kp No w w1 := e1.kp (.inr (by omega))
 clear e1
 refine AtR_go rfl (AtG_alloc fun b6 w2 hb6 e2 => ?_)
 have B6 : Blk w2 b6 40 (0, 0) z40 := e2.blk
 have k2 : Kp No w1 w2 := e2.kp (.inr (by omega))
 have z1 := k1.size
 have l4 := B4.lt
 have h46 : b4 ≠ b6 := by omega
 clear e2
 have K := k1.trans k2
 have z2 := K.size
 replace B4 := B4.kp k2 fun h => h
 have hcl := h.clt c h.dc
 have hno : ∀ j, w.heap.size ≤ j → ¬ Ds j ∧ ¬ Dc j := fun j hj => ⟨fun hd => by have := h.stt.dlt j hd; omega, fun hd => by have := h.clt j hd; omega⟩
 (refine s_as ?_; refine AtR_nil (At_seq (At_seq (At_region ?_))); refine s_mv ?_)
 refine s_val (x_neq rfl rfl) ?_
 refine AtR_nil ?_
 have hgl : ∃ gl, gl = ch.goes cd := ⟨_, rfl⟩
 obtain ⟨gl, hgl⟩ := hgl
 have hgn : ∀ n ∈ gl, n < 9223372036854775808 := by
  rw [hgl]; unfold Ch.goes; split
  ·exact hn.1
  ·exact hn.2
 rw [← hgl]
 refine At_meet (σ := Option Addr × Nat) (fun s => [(0, .pointer (some ⟨c, 0, none⟩)), (2, .int .i64 (cd : Int)), (4, .pointer (some ⟨b4, 0, none⟩)), (6, .pointer (some ⟨b6, 0, none⟩))])
  (fun s w' => Blk w' c 149 (0, 0) [.pointer (some ⟨g, 0, none⟩), .slice av ch.saved.length cv, .slice s.1 gl.length s.2] ∧ Own w' 3 1 s.1 gl.length s.2 (ints .i64 (natI gl)) ∧ (∀ j, blkOf s.1 j → Dc j) ∧ Blk w' b4 40 (0, 0) (if cd = 0 then trC r d else trC Pr.zero 0) ∧ Blk w' b6 40 (0, 0) z40 ∧ StAt w' sp ch.st Ds ∧ Blk w' g 171 (0, 0) [.iface 47 (.pointer (some ⟨sp, 0, none⟩)), .pointer (some ⟨bo, 0, none⟩), .slice ak key.length ck, .slice an name.length cn] ∧ Kp (fun j => Ds j ∨ Dc j) w w') ?_ ?_
 rotate_left
 ·intro join
  by_cases hc0 : cd = 0
  ·rw [show decide ((cd : Int) ≠ 0) = false from decide_eq_false (by omega)]
   refine At_cond_f rfl ?_
   refine At_skip ?_
   have hg : gl = ch.gone := by rw [hgl]; unfold Ch.goes; rw [if_pos hc0]
   exact join (ag, cg) _ _ ⟨rfl, rfl, rfl, rfl, trivial⟩ ⟨by rw [hg]; exact hR.kp K fun h => h, by rw [hg]; exact hOg.kp K fun _ _ h => h, hDg, by rw [if_pos hc0]; exact B4, B6, h.stt.kpn K, hG.kp K fun h => h, K.mono fun _ h => h.elim⟩
  ·rw [show decide ((cd : Int) ≠ 0) = true from decide_eq_true (by omega)]
   refine At_cond_t rfl ?_
   have hg : gl = ch.saved := by rw [hgl]; unfold Ch.goes; rw [if_neg hc0]
   have kd := Kp.drew (S := No) (w := w2)
   have KD := K.trans kd
   let S : World → Prop := fun w' => Blk w' c 149 (0, 0) [.pointer (some ⟨g, 0, none⟩), .slice av ch.saved.length cv, .slice ag ch.gone.length cg]
   have hS : S w2.drew := hR.kp KD fun h => h
   refine AtL_draw S 9 rfl ?_
   (apply AtL_take 0 rfl (by decide +kernel) (by exact rfl); (focus (intro wx hx; skip; exact x_move (by conv => lhs; whnf))); (focus (exact hS)))
   (apply AtL_take 2 rfl (by decide +kernel) (by exact rfl); (focus (intro wx hx; skip; exact x_move (by conv => lhs; whnf))); (focus (exact hS)))
   (apply AtL_take 3 rfl (by decide +kernel) (by exact rfl); (focus (intro wx hx; skip; exact x_nilCheck rfl)); (focus (exact hS)))
   (apply AtL_take 4 rfl (by decide +kernel) (by exact rfl); (focus (intro wx hx; skip; exact x_fieldAddrN rfl (by first | exact Nat.zero_add _ | exact Nat.add_zero _ | (simp only [Nat.reduceAdd] <;> rfl) | exact rfl))); (focus (exact hS)))
   refine AtL_take 1 rfl (by decide +kernel) (by exact rfl) (fun wx hx => x_build rfl built40_nil) hS ?_
   refine AtL_take 5 rfl (by decide +kernel) (by exact rfl) (fun wx hx => x_load1 rfl hx rfl) hS ?_
   refine L_skip 6 rfl (by decide +kernel) (by exact rfl) (r_store_all (s := 34) (vs := trC Pr.zero 0) rfl rfl (B4.kp kd fun h => h) rfl hl34 rfl) ?_
   intro w3 e3
   have k3 : Kp (fun j => j = b4) w2.drew w3 := e3.kp (.inl rfl)
   have hS3 : S w3 := hS.kp k3 (by omega)
   refine ⟨.inr hS3, ?_⟩
   clear hS
   have hS := hS3
   (apply AtL_take 7 rfl (by decide +kernel) (by exact rfl); (focus (intro wx hx; skip; exact x_nilCheck rfl)); (focus (exact hS)))
   (apply AtL_take 8 rfl (by decide +kernel) (by exact rfl); (focus (intro wx hx; skip; exact x_fieldAddrN rfl (by first | exact Nat.zero_add _ | exact Nat.add_zero _ | (simp only [Nat.reduceAdd] <;> rfl) | exact rfl))); (focus (exact hS)))
   refine L_skip 9 rfl (by decide +kernel) (by exact rfl) (r_store1 (v := .slice av ch.saved.length cv) rfl rfl hS (by simp) rfl rfl) ?_
   intro w4 e4
   refine ⟨.inl rfl, AtL_done (by decide +kernel) ?_⟩
   have k4 : Kp (fun j => j = c) w3 w4 := e4.kp (.inl rfl)
   have hno4 : ¬ Ds b4 ∧ ¬ Dc b4 := hno b4 (by omega)
   have hOv3 := (hOv.kp KD fun _ _ h => h).kp k3 fun j hj e => hno4.2 (e ▸ hDv j hj)
   have hOv4 := hOv3.kp k4 fun j hj e => hOv3.ne hS3 (by decide) (e ▸ hj)
   have hgc : g ≠ c := fun e => (h.gs c (e ▸ h.gr.dg)).2 h.dc
   have hgb : g ≠ b4 := fun e => by have := h.glt g h.gr.dg; omega
   exact join (av, cv) _ _ ⟨rfl, rfl, rfl, rfl, trivial⟩ ⟨by rw [hg]; exact e4.blk, by rw [hg]; exact hOv4, hDv, by rw [if_neg hc0]; exact e3.blk.kp k4 (by omega), ((B6.kp kd fun h => h).kp k3 (fun e => h46 e.symm)).kp k4 (by omega),
    ((h.stt.kpn KD).kp k3 (by rintro j hj rfl; exact hno4.1 hj)).kp k4 (by rintro j hj rfl; exact h.sc j hj h.dc), ((hG.kp KD fun h => h).kp k3 hgb).kp k4 hgc, ((KD.mono fun _ h => h.elim).trans' k3 (by rintro j rfl; right; omega)).trans (k4.mono (by rintro j rfl; exact .inr h.dc))⟩
 ·rintro ⟨ax, cx⟩ w3 junk ⟨hR3, hO3, hDx, B4a, B6a, hst, hG3, K3⟩
  simp only at hR3 hO3 hDx ⊢
  have z3 := K3.size
  have hgl63 : gl.length ≤ 9223372036854775807 := by
   have h1 := hO3.2.1
   have h2 := hO3.2.2.1
   simp only [maxLen] at h2
   omega
  (refine At_seq (At_seq (At_region ?_)); refine s_mv ?_; refine s_nc ?_; refine s_fa ?_; refine s_ld ?_; refine s_ln ?_; refine s_mv ?_; refine AtR_nil (At_block ?_))
  refine At_while (fun i : Nat => [(0, .pointer (some ⟨c, 0, none⟩)), (2, .int .i64 (cd : Int)), (4, .pointer (some ⟨b4, 0, none⟩)), (6, .pointer (some ⟨b6, 0, none⟩)), (23, .slice ax gl.length cx), (24, .int .i64 (gl.length : Int)), (25, .int .i64 (i : Int))])
   (fun i w' => i ≤ gl.length ∧ StAt w' sp (dropAll ch.st (gl.take i)) Ds ∧ Kp Ds w3 w') (fun i => gl.length - i) 0 ⟨rfl, rfl, rfl, rfl, rfl, rfl, rfl, trivial⟩ ⟨by omega, hst, Kp.refl _ _⟩ ?_
  rintro i w4 junk2 ⟨hi, h4, K4⟩ again
  have hR4 := hR3.kp K4 fun hd => h.sc _ hd h.dc
  have hO4 := hO3.kp K4 fun j hj hd => h.sc j hd (hDx j hj)
  have hG4 := hG3.kp K4 fun hd => (h.gs _ h.gr.dg).1 hd
  have B4b := B4a.kp K4 (hno b4 (by omega)).1
  have B6b := B6a.kp K4 (hno b6 (by omega)).1
  by_cases hlt : i < gl.length
  ·obtain ⟨bx, spx, rfl, _, _, hseg⟩ := own_in hO4 (by omega)
   have hget : (ints .i64 (natI gl))[i]? = some (.int .i64 ((gl[i] : Nat) : Int)) := by simp [ints, natI, hlt]
   (refine At_seq (At_region ?_); refine s_lss ?_; refine AtR_nil (At_seq ?_); refine At_cond_t rfl ?_; refine At_skip (At_seq (At_block (At_seq (At_region ?_)))); refine s_ia ?_)
   refine s_val (x_load_seg rfl hseg hget) ?_
   (refine s_as ?_; refine AtR_nil (At_region ?_); refine s_mv ?_; refine s_nc ?_; refine s_fa ?_; refine s_ld ?_; refine s_nc ?_; refine s_fa ?_; refine s_ld ?_; refine s_mv ?_)
   refine s_call (x_invoke rfl) (sdrop_calls (dropAll ch.st (gl.take i)) gl[i] sp _ h4 (hgn _ (List.getElem_mem hlt))) ?_
   rintro _ w5 ⟨⟨cc, rfl⟩, h5, k5⟩
   refine ⟨_, rfl, ?_⟩
   rw [← dropAll_snoc ch.st gl i hlt] at h5
   (refine AtR_nil (At_inBlock (At_region ?_)); refine s_ad ?_; refine s_mv ?_; refine AtR_nil ?_)
   exact again (i + 1) _ _ ⟨rfl, rfl, rfl, rfl, rfl, rfl, rfl, trivial⟩ ⟨hlt, h5, K4.trans k5⟩ (by omega)
  have hie : i = gl.length := by omega
  clear again
  subst hie
  rw [List.take_length] at h4
  have hl4 : (if cd = 0 then trC r d else trC Pr.zero 0).length = 34 := by split; exact hl34; rfl
  have ho4 : (if cd = 0 then trC r d else trC Pr.zero 0).all (·.oneCell') = true := by
   split
   ·unfold trC; rw [List.all_append, prC_one]; rfl
   ·rfl
  (refine At_seq (At_region ?_); refine s_lss ?_; refine AtR_nil (At_seq ?_); refine At_cond_f rfl ?_; refine At_exit rfl ?_; refine At_seq (At_region ?_))
  refine s_val (x_load_all rfl B4b hl4) ?_
  (refine s_mv ?_)
  refine AtR_go rfl (G_skip (r_store_all (s := 34) rfl rfl B6b hl4 rfl ho4) fun w5 e5 => ?_)
  (refine s_as ?_; refine AtR_nil ?_)
  have k5 : Kp (fun j => j = b6) w4 w5 := e5.kp (.inl rfl)
  exact At_ret_cell2 (s := 34) Tryd.func75 rfl rfl e5.blk hl4 rfl ⟨rfl, h4.kp k5 (by rintro j hj rfl; exact (hno _ (by omega)).1 hj), (K3.trans (K4.mono fun j hj => .inl hj)).trans' k5 (by rintro j rfl; right; omega)⟩
end Go.Proofs.YtfngacepjcdlnaaDoor
namespace Go.Mt
open Go Go.Kx Go.Proofs.YtfngacepjcdlnaaDoor
structure Nums (ch : Ch) : Prop where
 gone : ∀ n ∈ ch.gone, n < 9223372036854775808
 saved : ∀ n ∈ ch.saved, n < 9223372036854775808
 all : ∀ l ∈ ch.st.b, l.length = 512
theorem Nums.lose {ch : Ch} {p : Pr} (h : Nums ch) (hp : p.wf) : Nums (ch.lose p) := by
 unfold Ch.lose
 split
 ·exact h
 ·refine ⟨fun n hn => ?_, h.saved, h.all⟩
  rcases List.mem_append.1 hn with hn | hn
  ·exact h.gone n hn
  ·rw [List.mem_singleton] at hn; rw [hn]; exact hp.sec
theorem Nums.save {ch : Ch} (key name : List UInt8) (lv fst : Nat) {b : List UInt8} (h : Nums ch) (hb : b.length = 512) (hs : Small ch 1) : Nums (ch.save key name lv fst b).2 := by
 have := hs.b
 unfold Ch.save
 split
 ·exact h
 ·refine ⟨h.gone, fun n hn => ?_, fun l hl => ?_⟩
  ·rcases List.mem_append.1 hn with hn | hn
   ·exact h.saved n hn
   ·rw [List.mem_singleton] at hn; omega
  ·rcases List.mem_append.1 (show l ∈ ch.st.b ++ [b] from hl) with hl | hl
   ·exact h.all l hl
   ·rw [List.mem_singleton] at hl; rw [hl]; exact hb
theorem nodeB_length {ps : List Pr} (hw : ∀ p ∈ ps, p.wf) (hl : ps.length = 14) : (nodeB ps).length = 512 := by
 rw [nodeB, List.length_append, packsB_length hw, hl]; simp
theorem Nums.node {ch : Ch} (key name : List UInt8) (lv fst : Nat) {ps : List Pr} (h : Nums ch) (hw : ∀ p ∈ ps, p.wf) (hl : ps.length = 14) (hs : Small ch 1) : Nums (ch.node key name lv fst ps).2 := by
 unfold Ch.node
 split
 ·exact h
 ·exact h.save key name lv fst (nodeB_length hw hl) hs
theorem getD_wf {ps : List Pr} (hw : ∀ p ∈ ps, p.wf) (k : Nat) : (ps.getD k Pr.zero).wf := by
 by_cases h : k < ps.length
 ·rw [show ps.getD k Pr.zero = ps[k] by simp [List.getD, h]]; exact hw _ (List.getElem_mem h)
 ·rw [show ps.getD k Pr.zero = Pr.zero by simp [List.getD, List.getElem?_eq_none (show ps.length ≤ k by omega)]]; exact zero_wf
theorem Nums.put (key name : List UInt8) : ∀ (lv fst : Nat) (p : Pr) (i : Nat) (b : List UInt8) (ch : Ch), Nums ch → p.wf → b.length = 512 → Small ch (2 * lv + 2) → Nums (putP key name lv fst p i b ch).2
 | 0, fst, p, i, b, ch, h, hp, hb, hs => by
  rw [putP]
  exact (h.lose hp).save key name 0 fst hb (Small.lose p (hs.mono (by omega)))
 | lv + 1, fst, p, i, b, ch, h, hp, hb, hs => by
  have h1 : Small (ch.lose p) (2 * lv + 2 + 1) := Small.lose p (hs.mono (by omega))
  have hn := h.lose hp
  rw [putP]
  split
  ·exact hn
  ·rename_i ps hps
   obtain ⟨hw, h14⟩ := ptsP_wf hn.all hps
   have hg := getD_wf hw ((i - fst) / roomN lv)
   have ih := Nums.put key name lv (fst + (i - fst) / roomN lv * roomN lv) (ps.getD ((i - fst) / roomN lv) Pr.zero) i b (ch.lose p) hn hg hb (h1.mono (by omega))
   have is := putP_small key name lv (fst + (i - fst) / roomN lv * roomN lv) (ps.getD ((i - fst) / roomN lv) Pr.zero) i b (ch.lose p) 1 h1
   have iw := putP_wf key name lv (fst + (i - fst) / roomN lv * roomN lv) (ps.getD ((i - fst) / roomN lv) Pr.zero) i b (ch.lose p) (h1.mono (by omega))
   split
   ·exact ih.node key name (lv + 1) fst (wf_set hw iw) (by rw [List.length_set]; exact h14) is
   ·exact ih
theorem above_length (r : Pr) : (above r).length = 14 := rfl
theorem deepP_ok (key name : List UInt8) (i n : Nat) (hi : i < roomN 5) : ∀ (f d : Nat) (r : Pr) (ch : Ch), d + f = 5 → r.wf → Nums ch → Small ch (f + n) →
  Small (deepP key name i f d r ch).2 n ∧ Nums (deepP key name i f d r ch).2 ∧ (deepP key name i f d r ch).1.1.wf ∧ (deepP key name i f d r ch).1.2.1 ≤ 5 ∧ ((deepP key name i f d r ch).1.2.2 = 0 → i < roomN (deepP key name i f d r ch).1.2.1)
 | 0, d, r, ch, hd, hr, hn, hs => by
  obtain rfl : d = 5 := by omega
  rw [deepP]
  exact ⟨hs.mono (by omega), hn, hr, Nat.le_refl _, fun _ => hi⟩
 | f + 1, d, r, ch, hd, hr, hn, hs => by
  rw [deepP]
  split
  ·rename_i h
   exact ⟨hs.mono (by omega), hn, hr, by simp only; omega, fun _ => h⟩
  ·have h1 : Small (ch.node key name (d + 1) 0 (above r)).2 (f + n) := Small.node key name (d + 1) 0 (above r) (hs.mono (by omega))
   have h2 := hn.node key name (d + 1) 0 (above_wf hr) (above_length r) (hs.mono (by omega))
   have h3 := node_wf key name (d + 1) 0 (above r) (hs.mono (show 1 ≤ f + 1 + n by omega))
   split
   ·exact deepP_ok key name i n hi f (d + 1) _ _ (by omega) h3 h2 h1
   ·rename_i hc
    exact ⟨h1.mono (by omega), h2, zero_wf, Nat.zero_le _, fun h => absurd h hc⟩
def putT (key name : List UInt8) (st : St) (r : Pr) (d i : Nat) (b : List UInt8) : (Pr × Nat × Nat) × Ch :=
 if (deepP key name i (5 - d) d r ⟨st, [], []⟩).1.2.2 = 0 then
  (((putP key name (deepP key name i (5 - d) d r ⟨st, [], []⟩).1.2.1 0 (deepP key name i (5 - d) d r ⟨st, [], []⟩).1.1 i b (deepP key name i (5 - d) d r ⟨st, [], []⟩).2).1.1, (deepP key name i (5 - d) d r ⟨st, [], []⟩).1.2.1,
   (putP key name (deepP key name i (5 - d) d r ⟨st, [], []⟩).1.2.1 0 (deepP key name i (5 - d) d r ⟨st, [], []⟩).1.1 i b (deepP key name i (5 - d) d r ⟨st, [], []⟩).2).1.2),
   (putP key name (deepP key name i (5 - d) d r ⟨st, [], []⟩).1.2.1 0 (deepP key name i (5 - d) d r ⟨st, [], []⟩).1.1 i b (deepP key name i (5 - d) d r ⟨st, [], []⟩).2).2)
 else deepP key name i (5 - d) d r ⟨st, [], []⟩
end Go.Mt
namespace Go.Proofs.YtfngacepjcdlnaaDoor
open Go Go.Kx Go.Kr Go.Mt
theorem built149 (g : Nat) : Tryd.prog.built 149 [(0, .pointer (some ⟨g, 0, none⟩))] = some [.pointer (some ⟨g, 0, none⟩), .slice none 0 0, .slice none 0 0].toArray := by kernel_rfl
set_option maxRecDepth 100000 in
set_option maxHeartbeats 16000000 in
theorem Put_calls (g sp bo : Nat) (key name : List UInt8) (st : St) (r : Pr) (d i : Nat) (l : List UInt8) (a : Option Addr) (cap : Nat) (w : World) {Ds Dg Db : Nat → Prop} (hg : GroveAt w g sp bo key name Dg) (hst : StAt w sp st Ds) (hr : r.wf) (hd : d ≤ 5) (hi : i < roomN 5) (hl : l.length = 512)
  (hs : SlE w .u8 a 512 cap (bs8 l) Db) (hdb : ∀ j, Db j → ¬ Ds j ∧ j < w.heap.size) (hgs : ∀ j, Dg j → ¬ Ds j ∧ j < w.heap.size) (hsm : st.b.length + 17 ≤ 1000000) :
  Calls Tryd.prog 25 #[.pointer (some ⟨g, 0, none⟩), .agg (trC r (d : Int)).toArray, .int .i64 (i : Int), .slice a 512 cap] w fun e w' =>
   e = .returned (.tuple #[.agg (if (putT key name st r d i l).1.2.2 = 0 then trC (putT key name st r d i l).1.1 ((putT key name st r d i l).1.2.1 : Int) else trC Pr.zero 0).toArray, .int .i64 ((putT key name st r d i l).1.2.2 : Int)]) ∧
    ∃ Ds', StAt w' sp (dropAll (putT key name st r d i l).2.st ((putT key name st r d i l).2.goes (putT key name st r d i l).1.2.2)) Ds' ∧ (∀ j, Ds' j → Ds j ∨ w.heap.size ≤ j) ∧ Kp Ds w w' := by
 refine calls_at (n := 61) Tryd.func25 rfl rfl (by simp) ?_
 have hl34 := trC_length hr (d : Int)
 have h5 : roomN 5 = 537824 := rfl
 (refine At_seq (At_region ?_))
 refine AtR_go rfl (AtG_box rfl fun b5 w1 hb5 e1 => ?_)
 have B5 : Blk w1 b5 40 (0, 0) (trC r (d : Int)) := e1.blk
 have k1 : Kp No w w1 := e1.kp (.inr (by omega))
 clear e1
 refine AtR_go rfl (AtG_alloc fun b8 w2 hb8 e2 => ?_)
 have B8 : Blk w2 b8 40 (0, 0) z40 := e2.blk
 have k2 : Kp No w1 w2 := e2.kp (.inr (by omega))
 have z1 := k1.size
 have l5 := B5.lt
 have h58 : b5 ≠ b8 := by omega
 clear e2
 replace B5 := B5.kp k2 fun h => h
 have l8 := B8.lt
 (refine s_as ?_; refine AtR_nil (At_seq (At_seq ?_)); refine At_region ?_)
 refine s_val (x_load_all rfl B5 hl34) ?_
 refine s_call x_call (right_calls r (d : Int) _ hr) ?_
 rintro _ w3 ⟨rfl, k3⟩
 refine ⟨_, rfl, ?_⟩
 rw [decide_eq_true (⟨by omega, by omega⟩ : 0 ≤ (d : Int) ∧ (d : Int) ≤ 5)]
 (refine s_nt ?_; refine s_mv ?_; refine s_yes rfl rfl rfl rfl ?_; refine g_mv ?_; refine s_yes rfl rfl rfl rfl ?_; refine g_lss ?_; refine s_pf ?_; refine s_mv ?_; refine s_yes rfl rfl rfl rfl ?_; refine g_mv ?_)
 refine s_yes rfl rfl rfl rfl ?_
 refine g_call x_call (room_calls 5 _ (by omega)) ?_
 rintro _ _ ⟨rfl, rfl⟩
 refine ⟨_, rfl, ?_⟩
 rw [show roomZ 5 = 537824 from rfl]
 (refine s_yes rfl rfl rfl rfl ?_; refine g_geq ?_; refine s_pf ?_; refine s_mv ?_; refine s_yes rfl rfl rfl rfl ?_; refine g_mv ?_; refine s_yes rfl rfl rfl rfl ?_; refine g_ln ?_; refine s_yes rfl rfl rfl rfl ?_; refine g_neq ?_; refine s_pf ?_; refine AtR_nil ?_; refine At_cond_f rfl ?_; refine At_skip (At_seq (At_region ?_)); refine s_mv ?_)
 refine s_val (x_build rfl (built149 g)) ?_
 refine AtR_go rfl (AtG_box rfl fun c w4 hc4 e4 => ?_)
 have C4 : Blk w4 c 149 (0, 0) [.pointer (some ⟨g, 0, none⟩), .slice none 0 0, .slice none 0 0] := e4.blk
 have k4 : Kp No w3 w4 := e4.kp (.inr (by omega))
 have K4 := ((k1.trans k2).trans k3).trans k4
 have zK4 := K4.size
 have z3 := ((k1.trans k2).trans k3).size
 have z23 := k3.size
 clear e4
 have B5a := B5.kp (k3.trans k4) fun h => h
 have B8a := B8.kp (k3.trans k4) fun h => h
 have hch : ChAt w4 c g sp bo key name ⟨st, [], []⟩ Ds (fun j => j = c) Dg := by
  refine ⟨hg.kpn K4, hst.kpn K4, ⟨none, 0, none, 0, C4, Own.nil _ _ _, Own.nil _ _ _, fun j hj => by simp [blkOf] at hj, fun j hj => by simp [blkOf] at hj, fun j hj => by simp [blkOf] at hj⟩, rfl, ?_, ?_, ?_, ?_⟩
  ·rintro j hj rfl; have := hst.dlt _ hj; omega
  ·refine fun j hj => ⟨(hgs j hj).1, ?_⟩
   rintro rfl; have := (hgs _ hj).2; omega
  ·rintro j rfl; exact C4.lt
  ·exact fun j hj => Nat.lt_of_lt_of_le (hgs j hj).2 K4.size
 have hs0 : Small ⟨st, [], []⟩ (5 - d + 12) := ⟨by simp only; omega, by simp only [List.length_nil]; omega, by simp only [List.length_nil]; omega⟩
 have hn0 : Nums ⟨st, [], []⟩ := ⟨(fun n hn => by cases hn), (fun n hn => by cases hn), hst.all⟩
 obtain ⟨hD1, hD2, hD3, hD4, hD5⟩ := deepP_ok key name i 12 hi (5 - d) d r ⟨st, [], []⟩ (by omega) hr hn0 hs0
 have hput : putT key name st r d i l = _ := putT.eq_1 key name st r d i l
 (refine s_as ?_; refine AtR_nil (At_seq (At_region ?_)); refine s_mv ?_)
 refine s_val (x_load_all rfl B5a hl34) ?_
 (refine s_mv ?_)
 refine s_call x_call (deepen_calls c g sp bo key name ⟨st, [], []⟩ r d i _ hch hr hd hi (hs0.mono (by omega))) ?_
 generalize deepP key name i (5 - d) d r ⟨st, [], []⟩ = D at *
 obtain ⟨⟨r', d', cd⟩, ch'⟩ := D
 simp only at hD1 hD2 hD3 hD4 hD5 hput ⊢
 rintro _ w5 ⟨rfl, Ds5, Dc5, h5c, hDD5, k5⟩
 refine ⟨_, rfl, ?_⟩
 have hDs : ∀ j, w.heap.size ≤ j → ¬ Ds j := fun j hj hd => by have := hst.dlt j hd; omega
 have n5 : ¬ Ds b5 ∧ ¬ (b5 = c) := ⟨hDs _ (by omega), by omega⟩
 have n8 : ¬ Ds b8 ∧ ¬ (b8 = c) := ⟨hDs _ (by omega), by omega⟩
 have B5b := B5a.kp k5 (out_kp (Ds := Ds) (Dc := fun j => j = c) n5)
 have B8b := B8a.kp k5 (out_kp (Ds := Ds) (Dc := fun j => j = c) n8)
 have m5 := out_of hDD5 n5 B5a.lt
 have m8 := out_of hDD5 n8 B8a.lt
 have hrl := trC_length hD3 (d' : Int)
 have hone : ∀ (q : Pr) (dd : Int), (trC q dd).all (·.oneCell') = true := fun q dd => by unfold trC; rw [List.all_append, prC_one]; rfl
 have hngb : ∀ j, w.heap.size ≤ j → ¬ Dg j := fun j hj hd => by have := (hgs j hd).2; omega
 (refine s_mv ?_; refine s_ex ?_; refine s_ex ?_)
 refine AtR_go rfl (G_skip (r_store_all (s := 34) (vs := trC r' (d' : Int)) rfl rfl B5b hrl hl34 (hone _ _)) fun w6 e6 => ?_)
 have B5c : Blk w6 b5 40 (0, 0) (trC r' (d' : Int)) := e6.blk
 have k6 : Kp (fun j => j = b5) w5 w6 := e6.kp (.inl rfl)
 have h6 := h5c.kp k6 (by rintro j rfl; exact ⟨m5.1, m5.2, hngb _ (by omega)⟩)
 have B8c := B8b.kp k6 (fun e => h58 e.symm)
 have z5 := k5.size
 have z6 := k6.size
 have K6 : Kp (fun j => Ds j ∨ j = c) w w6 := ((K4.mono fun _ h => h.elim).trans k5).trans' k6 (by rintro j rfl; right; omega)
 have hDw : ∀ j, Ds5 j ∨ Dc5 j → Ds j ∨ j = c ∨ w.heap.size ≤ j := fun j hj => (hDD5 j hj).imp id fun h => h.imp id fun h => by have := K4.size; omega
 clear e6
 (refine s_as ?_; refine AtR_nil (At_seq (At_seq (At_region ?_))); refine s_mv ?_)
 refine s_val (x_eql rfl rfl) ?_
 refine AtR_nil ?_
 refine At_meet (σ := Nat) (fun cc => [(5, .pointer (some ⟨b5, 0, none⟩)), (8, .pointer (some ⟨b8, 0, none⟩)), (10, .pointer (some ⟨c, 0, none⟩)), (11, .int .i64 (cc : Int))])
  (fun cc w' => ∃ q dd ch2 Ds7 Dc7, putT key name st r d i l = ((q, dd, cc), ch2) ∧ q.wf ∧ Nums ch2 ∧ Blk w' b5 40 (0, 0) (trC q ((dd : Nat) : Int)) ∧ Blk w' b8 40 (0, 0) z40 ∧ ChAt w' c g sp bo key name ch2 Ds7 Dc7 Dg ∧ (¬ Ds7 b8 ∧ ¬ Dc7 b8) ∧ (∀ j, Ds7 j ∨ Dc7 j → Ds j ∨ j = c ∨ w.heap.size ≤ j) ∧ Kp (fun j => Ds j ∨ j = c) w w') ?_ ?_
 rotate_left
 ·intro join
  by_cases hc0 : cd = 0
  ·subst hc0
   rw [decide_eq_true (show ((0 : Nat) : Int) = 0 from rfl)]
   refine At_cond_t rfl ?_
   have hid := hD5 rfl
   rw [if_pos rfl] at hput
   have hs6 : SlE w6 .u8 a 512 cap (bs8 l) Db := ((hs.kpn K4).kp k5 fun j hj => out_kp (Ds := Ds) (Dc := fun j => j = c) ⟨(hdb j hj).1, by have := (hdb j hj).2; omega⟩).kp k6 fun j hj e => by have := (hdb j hj).2; omega
   have hdb6 : ∀ j, Db j → (¬ Ds5 j ∧ ¬ Dc5 j) ∧ j < w6.heap.size := fun j hj => ⟨out_of hDD5 ⟨(hdb j hj).1, by have := (hdb j hj).2; omega⟩ (by have := (hdb j hj).2; have := K4.size; omega), by have := (hdb j hj).2; have := K4.size; omega⟩
   have hdeep := trC_deep hD3 (d' : Int)
   (refine At_region ?_; refine s_mv ?_; refine s_fa ?_)
   refine s_val (x_load_segN rfl (trC_seg B5c) (prC_length hD3)) ?_
   (refine s_fa ?_)
   refine s_val (x_load1 rfl B5c hdeep) ?_
   refine s_val (x_build rfl (built153 (d' : Int) 0)) ?_
   (refine s_mv ?_; refine s_mv ?_)
   have hrd := roomN_le hD4
   refine s_call x_call (put_calls key name c g sp bo d' hD4 0 r' i l a cap ch' _ Ds5 Dc5 Dg Db h6 hD3 hs6 hdb6 hl (by omega) (Nat.zero_le _) (by omega) (hD1.mono (by omega))) ?_
   have hqw := putP_wf key name d' 0 r' i l ch' (hD1.mono (by omega))
   have hqn := Nums.put key name d' 0 r' i l ch' hD2 hD3 hl (hD1.mono (by omega))
   generalize putP key name d' 0 r' i l ch' = res at *
   obtain ⟨⟨q, cq⟩, ch2⟩ := res
   simp only at hqw hqn hput ⊢
   rintro _ w7 ⟨rfl, Ds7, Dc7, h7, hD7, k7⟩
   refine ⟨_, rfl, ?_⟩
   have B5d := B5c.kp k7 (out_kp m5)
   have B8d := B8c.kp k7 (out_kp m8)
   have p5 := out_of hD7 m5 B5c.lt
   have p8 := out_of hD7 m8 B8c.lt
   have hq33 := prC_length hqw
   (refine s_mv ?_; refine s_ex ?_; refine s_ex ?_; refine s_fa ?_)
   refine AtR_go rfl (G_skip (r_storeN (cs := trC r' (d' : Int)) (vs := prC q) rfl rfl B5d hq33 (by rw [hrl]; omega) (prC_one _)) fun w8 e8 => ?_)
   rw [trC_lay hD3 hqw] at e8
   have k8 : Kp (fun j => j = b5) w7 w8 := e8.kp (.inl rfl)
   have z7 := k7.size
   refine s_as ?_
   refine AtR_nil ?_
   exact join cq _ _ ⟨rfl, rfl, rfl, rfl, trivial⟩ ⟨q, d', ch2, Ds7, Dc7, hput, hqw, hqn, e8.blk, B8d.kp k8 (fun e => h58 e.symm), h7.kp k8 (by rintro j rfl; exact ⟨p5.1, p5.2, hngb _ (by omega)⟩), p8, chain_D hD7 hDw (by omega), (chain_K K6 k7 hDw).trans' k8 (by rintro j rfl; right; omega)⟩
  ·rw [decide_eq_false (show ¬ ((cd : Nat) : Int) = 0 by omega)]
   refine At_cond_f rfl ?_
   refine At_skip ?_
   rw [if_neg hc0] at hput
   exact join cd _ _ ⟨rfl, rfl, rfl, rfl, trivial⟩ ⟨r', d', ch', Ds5, Dc5, hput, hD3, hD2, B5c, B8c, h6, m8, hDw, K6⟩
 ·rintro cc w7 junk ⟨q, dd, ch2, Ds7, Dc7, hpt, hqw, hqn, B5d, B8d, h7, p8, hD7, K7⟩
  rw [hpt]
  simp only
  have hq34 := trC_length hqw (dd : Int)
  have l8' := B8d.lt
  (refine At_seq (At_region ?_); refine s_mv ?_)
  refine s_val (x_load_all rfl B5d hq34) ?_
  (refine s_mv ?_)
  refine s_call x_call (end_calls c g sp bo key name ch2 q (dd : Int) cc _ h7 hqw ⟨hqn.gone, hqn.saved⟩) ?_
  rintro _ w8 ⟨rfl, hst8, k8⟩
  refine ⟨_, rfl, ?_⟩
  have B8e := B8d.kp k8 (out_kp p8)
  have hl8 : (if cc = 0 then trC q (dd : Int) else trC Pr.zero 0).length = 34 := by split; exact hq34; rfl
  have ho8 : (if cc = 0 then trC q (dd : Int) else trC Pr.zero 0).all (·.oneCell') = true := by
   split
   ·exact hone _ _
   ·rfl
  (refine s_ex ?_; refine s_ex ?_)
  refine AtR_go rfl (G_skip (r_store_all (s := 34) rfl rfl B8e hl8 rfl ho8) fun w9 e9 => ?_)
  (refine s_as ?_; refine AtR_nil ?_)
  have k9 : Kp (fun j => j = b8) w8 w9 := e9.kp (.inl rfl)
  have z7 := K7.size
  have hKall : Kp (fun j => Ds j ∨ j = c) w w8 := K7.trans' k8 fun j hj => (hD7 j hj).elim (fun h => .inl (.inl h)) fun h => h.elim (fun h => .inl (.inr h)) .inr
  refine At_ret_cell2 (s := 34) Tryd.func25 rfl rfl e9.blk hl8 rfl ⟨rfl, Ds7, hst8.kp k9 (by rintro j hj rfl; exact p8.1 hj), fun j hj => ?_, ?_⟩
  ·rcases hD7 j (.inl hj) with h1 | h1 | h1
   ·exact .inl h1
   ·right; omega
   ·exact .inr h1
  ·have hK9 : Kp (fun j => Ds j ∨ w.heap.size ≤ j) w w9 := (hKall.mono fun j hj => hj.imp id fun h => by omega).trans' k9 (by rintro j rfl; right; omega)
   exact Kp.trans' (Kp.refl Ds w) hK9 fun j hj => hj
end Go.Proofs.YtfngacepjcdlnaaDoor
namespace Go.Mt
def blockB (c : UInt8) : List UInt8 := (List.range 512).map fun p => if p % 7 = 0 then c else 0
def blockTo (c : UInt8) (i : Nat) : List UInt8 := (List.range 512).map fun p => if p % 7 = 0 ∧ p < 7 * i then c else 0
theorem blockTo_length (c : UInt8) (i : Nat) : (blockTo c i).length = 512 := by simp [blockTo]
theorem blockB_length (c : UInt8) : (blockB c).length = 512 := by simp [blockB]
theorem blockTo_step (c : UInt8) (i : Nat) (h : 7 * i < 512) : (blockTo c i).set (7 * i) c = blockTo c (i + 1) := by
 apply List.ext_getElem (by simp [blockTo])
 intro p h1 h2
 rw [List.getElem_set]
 simp only [blockTo, List.getElem_map, List.getElem_range]
 by_cases e : 7 * i = p
 ·rw [if_pos e, if_pos (by omega)]
 ·rw [if_neg e]
  by_cases e2 : p % 7 = 0 ∧ p < 7 * i
  ·rw [if_pos e2, if_pos (by omega)]
  ·rw [if_neg e2, if_neg (by omega)]
theorem blockTo_all (c : UInt8) : blockTo c 74 = blockB c := by
 unfold blockTo blockB
 refine List.map_congr_left fun p hp => ?_
 have := List.mem_range.1 hp
 by_cases e : p % 7 = 0
 ·rw [if_pos e, if_pos ⟨e, by omega⟩]
 ·rw [if_neg e, if_neg (fun h => e h.1)]
theorem blockTo_zero (c : UInt8) : blockTo c 0 = List.replicate 512 0 := by
 have : (blockTo c 0).length = (List.replicate 512 (0 : UInt8)).length := by rw [blockTo_length, List.length_replicate]
 refine List.ext_getElem this fun p h1 h2 => ?_
 rw [List.getElem_replicate]
 simp only [blockTo, List.getElem_map, List.getElem_range]
 rw [if_neg (by omega)]
end Go.Mt
namespace Go.Proofs.YtfngacepjcdlnaaDoor
open Go Go.Kx Go.Kr Go.Mt
set_option maxRecDepth 100000 in
set_option maxHeartbeats 4000000 in
theorem block_calls (c : UInt8) (w : World) :
  Calls Tryd.prog 26 #[.int .u8 (ub c)] w fun e w' => ∃ b, e = .returned (.slice (some ⟨b, 0, none⟩) 512 512) ∧ Own w' 5 1 (some ⟨b, 0, none⟩) 512 512 (ints .u8 (bs8 (blockB c))) ∧ w.heap.size ≤ b ∧ Kp No w w' := by
 refine calls_at (n := 17) Tryd.func26 rfl rfl (by simp) ?_
 (refine At_seq (At_region ?_); refine s_as ?_; refine AtR_nil (At_seq ?_); refine At_region ?_)
 refine AtR_go rfl (AtG_make1 (z := .int .u8 0) rfl rfl (by omega) (by omega) rfl (by omega) (by omega) fun b w1 hb e1 => ?_)
 have B1 : Blk w1 b 5 (0, 0) (ints .u8 (bs8 (blockTo c 0))) := by rw [blockTo_zero]; exact e1.blk
 have K1 : Kp No w w1 := e1.kp (.inr (by omega))
 clear e1
 (refine s_as ?_; refine AtR_nil (At_seq (At_seq (At_region ?_))); refine s_as ?_; refine AtR_nil (At_block ?_))
 refine At_while (fun i : Nat => [(0, .int .u8 (ub c)), (3, .slice (some ⟨b, 0, none⟩) 512 512), (4, .int .i64 ((7 * i : Nat) : Int))])
  (fun i w' => i ≤ 74 ∧ Blk w' b 5 (0, 0) (ints .u8 (bs8 (blockTo c i))) ∧ Kp (fun j => j = b) w1 w') (fun i => 74 - i) 0 ⟨rfl, rfl, rfl, trivial⟩ ⟨by omega, B1, Kp.refl _ _⟩ ?_
 clear B1
 rintro i w2 junk ⟨hi, B2, K2⟩ again
 have hlen := blockTo_length c i
 by_cases hlt : 7 * i < 512
 ·(refine At_seq (At_seq (At_region ?_)); refine s_mv ?_; refine s_mv ?_; refine s_ln ?_; refine s_lss ?_; refine AtR_nil ?_; refine At_cond_t rfl ?_; refine At_skip (At_seq (At_block (At_region ?_))); refine s_mv ?_; refine s_mv ?_; refine s_mv ?_; refine s_ia ?_)
  refine AtR_go rfl (G_skip (r_store_bb rfl rfl B2 (by omega) rfl) fun w3 e3 => ?_)
  have B3 : Blk w3 b 5 (0, 0) (ints .u8 (bs8 (blockTo c (i + 1)))) := by
   have := e3.blk
   first
    | rw [show ((7 * i : Nat) : Int).toNat = 7 * i by omega, blockTo_step _ _ hlt] at this; exact this
    | rw [blockTo_step _ _ hlt] at this; exact this
  (refine AtR_nil (At_inBlock (At_region ?_)); refine s_mv ?_; refine s_ad ?_; refine s_as ?_; refine AtR_nil ?_)
  rw [show ((7 * i : Nat) : Int) + 7 = ((7 * (i + 1) : Nat) : Int) by omega]
  exact again (i + 1) _ _ ⟨rfl, rfl, rfl, trivial⟩ ⟨by omega, B3, K2.trans (e3.kp (.inl rfl))⟩ (by omega)
 have hie : i = 74 := by omega
 clear again
 subst hie
 (refine At_seq (At_seq (At_region ?_)); refine s_mv ?_; refine s_mv ?_; refine s_ln ?_; refine s_lss ?_; refine AtR_nil ?_; refine At_cond_f rfl ?_; refine At_exit rfl ?_; refine At_seq (At_region ?_); refine s_mv ?_; refine s_as ?_; refine AtR_nil ?_)
 refine At_ret1 Tryd.func26 rfl (by conv => lhs; whnf) ?_
 rw [blockTo_all] at B2
 exact ⟨b, rfl, Blk.own B2 (by simp [blockB_length]) (by simp only [maxLen]; omega), by omega, K1.trans' K2 (by rintro j rfl; right; omega)⟩
end Go.Proofs.YtfngacepjcdlnaaDoor
namespace Go.Kx
open Go
theorem x_eql_iface_nil {P : Program} {n : Nat} {env : Env} {w : World} {dst : Option Tmp} {ty : TypeId} {pos : String} {aft : Array Edge} {g : Option (Nat × Bool)} {x y : Operand} {T T' t : TypeId} {v : Value} (hT : ∃ m, P.underlying T = some (.interface m)) (hI : P.isIface T = true) (hx : ev n env x = .iface t v) (hy : ev n env y = .nilIface) :
  Run P n env ⟨dst, .binOp .eql T x y T', ty, pos, aft, g⟩ w (.ok (.value (.bool false)) w) := by
 obtain ⟨m, hm⟩ := hT
 obtain ⟨k, hk⟩ : ∃ k, Op.maxDepth = k + 1 := ⟨Op.maxDepth - 1, by decide⟩
 unfold Run
 simp [execOp, hx, hy, eqGuard, binOp, Op.equal, hk, run_equalIn_iface_nil w k T hI]
end Go.Kx
namespace Go.Proofs.YtfngacepjcdlnaaDoor
open Go Go.Kx Go.Kr Go.Mt
theorem built171 (sp bo : Nat) (ak an : Option Addr) (lk ck ln cn : Nat) : Tryd.prog.built 171 [(0, .iface 47 (.pointer (some ⟨sp, 0, none⟩))), (1, .pointer (some ⟨bo, 0, none⟩)), (2, .slice ak lk ck), (3, .slice an ln cn)] = some [Value.iface 47 (.pointer (some ⟨sp, 0, none⟩)), .pointer (some ⟨bo, 0, none⟩), .slice ak lk ck, .slice an ln cn].toArray := by kernel_rfl
set_option maxRecDepth 100000 in
set_option maxHeartbeats 4000000 in
theorem new_calls (sp bo : Nat) (key name : List UInt8) (ak an : Option Addr) (ck cn : Nat) (w : World) {D D' : Nat → Prop} (hO : Blk w bo 129 (0, 0) z129) (hC : ∃ fz, Blk w 1 243 fz (ints .u64 (ws kSha))) (hk : SlE w .u8 ak key.length ck (bs8 key) D) (hkn : ak = none → key.length = 0) (hn : SlE w .u8 an name.length cn (bs8 name) D') (hnn : an = none → name.length = 0) (hl : key.length ≤ 1000 ∧ name.length ≤ 256) :
  Calls Tryd.prog 49 #[.iface 47 (.pointer (some ⟨sp, 0, none⟩)), .pointer (some ⟨bo, 0, none⟩), .slice ak key.length ck, .slice an name.length cn] w fun e w' =>
   ∃ g Dg, e = .returned (.tuple #[.pointer (some ⟨g, 0, none⟩), .int .i64 0]) ∧ GroveAt w' g sp bo key name Dg ∧ (∀ j, Dg j → (w.heap.size ≤ j ∧ j < w'.heap.size) ∨ j = bo ∨ j = 1) ∧ Kp No w w' := by
 refine calls_at (n := 29) Tryd.func49 rfl rfl (by simp) ?_
 (refine At_seq (At_region ?_); refine s_as ?_; refine s_as ?_; refine AtR_nil (At_seq (At_block (At_seq (At_region ?_)))); refine s_mv ?_)
 refine s_val (x_eql_iface_nil ⟨_, Tryd.underlying169⟩ (by kernel_rfl) rfl rfl) ?_
 (refine s_mv ?_; refine s_yes rfl rfl rfl rfl ?_; refine g_mv ?_; refine s_yes rfl rfl rfl rfl ?_; refine g_eqlp ?_; refine s_pf ?_; refine s_as ?_; refine AtR_nil ?_; refine At_cond_f rfl ?_; refine At_seq (At_region ?_); refine s_mv ?_; refine s_ln ?_; refine s_gtr ?_; refine s_as ?_; refine AtR_nil ?_; refine At_cond_f rfl ?_; refine At_skip (At_inBlock (At_seq (At_region ?_))); refine s_mv ?_; refine s_mv ?_; refine s_mv ?_)
 refine s_call x_call (clone_calls key ak _ ck _ hk (by omega) hkn) ?_
 rintro _ w1 ⟨a1, c1, rfl, ho1, hf1, k1⟩
 refine ⟨_, rfl, ?_⟩
 (refine s_mv ?_)
 refine s_call x_call (clone_calls name an _ cn _ (hn.kpn k1) (by omega) hnn) ?_
 rintro _ w2 ⟨a2, c2, rfl, ho2, hf2, k2⟩
 refine ⟨_, rfl, ?_⟩
 have z1 := k1.size
 have z2 := k2.size
 refine s_val (x_build rfl (built171 sp bo a1 a2 _ c1 _ c2)) ?_
 refine AtR_go rfl (AtG_box rfl fun g w3 hg e3 => ?_)
 have G3 : Blk w3 g 171 (0, 0) [.iface 47 (.pointer (some ⟨sp, 0, none⟩)), .pointer (some ⟨bo, 0, none⟩), .slice a1 key.length c1, .slice a2 name.length c2] := e3.blk
 have k3 : Kp No w2 w3 := e3.kp (.inr (by omega))
 have K3 := (k1.trans k2).trans k3
 have z3 := k3.size
 clear e3
 (refine s_as ?_; refine s_as ?_; refine AtR_nil ?_)
 refine At_ret2 Tryd.func49 rfl (by conv => lhs; whnf) (by conv => lhs; whnf) ?_
 obtain ⟨fz, hc⟩ := hC
 have ho1' := ho1.kp (k2.trans k3) fun _ _ h => h
 have ho2' := ho2.kp k3 fun _ _ h => h
 refine ⟨g, fun j => blkOf a1 j ∨ blkOf a2 j ∨ j = g ∨ j = bo ∨ j = 1, rfl, ⟨⟨a1, c1, a2, c2, G3, ho1'.sl.e fun j hj => .inl hj, fun e => by subst e; exact own_none ho1, ho2'.sl.e fun j hj => .inr (.inl hj)⟩, hO.kp K3 fun h => h, ⟨fz, hc.kp K3 fun h => h⟩, .inr (.inr (.inl rfl)), .inr (.inr (.inr (.inl rfl))), .inr (.inr (.inr (.inr rfl))), hl⟩, ?_, K3⟩
 rintro j (hj | hj | hj | hj | hj)
 ·exact .inl ⟨hf1 j hj, ho1'.lt j hj⟩
 ·exact .inl ⟨by have := hf2 j hj; omega, ho2'.lt j hj⟩
 ·subst hj; exact .inl ⟨by omega, G3.lt⟩
 ·exact .inr (.inl hj)
 ·exact .inr (.inr hj)
end Go.Proofs.YtfngacepjcdlnaaDoor
namespace Go.Kx
open Go
theorem x_makeIface {P : Program} {n : Nat} {env : Env} {w : World} {dst : Option Tmp} {ty : TypeId} {pos : String} {aft : Array Edge} {g : Option (Nat × Bool)} {T E : TypeId} [hT : TU P T (.pointer E)] {x : Operand} {v : Value} (hx : ev n env x = v) :
  Run P n env ⟨dst, .makeInterface T x, ty, pos, aft, g⟩ w (.ok (.value (.iface T v)) w) := by
 unfold Run
 simp [execOp, hx, Instr.makeInterface, run_underlying hT.h]
end Go.Kx
namespace Go.Proofs.YtfngacepjcdlnaaDoor
open Go Go.Kx Go.Kr Go.Mt
set_option maxRecDepth 100000 in
set_option maxHeartbeats 4000000 in
theorem grove_calls (sp : Nat) (key name : List UInt8) (ak an : Option Addr) (ck cn : Nat) (w : World) {D D' : Nat → Prop} (hC : ∃ fz, Blk w 1 243 fz (ints .u64 (ws kSha))) (hk : SlE w .u8 ak key.length ck (bs8 key) D) (hkn : ak = none → key.length = 0) (hn : SlE w .u8 an name.length cn (bs8 name) D') (hnn : an = none → name.length = 0) (hl : key.length ≤ 1000 ∧ name.length ≤ 256) :
  Calls Tryd.prog 24 #[.pointer (some ⟨sp, 0, none⟩), .slice ak key.length ck, .slice an name.length cn] w fun e w' =>
   ∃ g bo Dg, e = .returned (.pointer (some ⟨g, 0, none⟩)) ∧ GroveAt w' g sp bo key name Dg ∧ (∀ j, Dg j → (w.heap.size ≤ j ∧ j < w'.heap.size) ∨ j = 1) ∧ Kp No w w' := by
 refine calls_at (n := 19) Tryd.func24 rfl rfl (by simp) ?_
 (refine At_seq (At_region ?_); refine s_as ?_; refine AtR_nil (At_seq (At_region ?_)); refine s_mv ?_)
 refine s_val (x_makeIface rfl) ?_
 refine s_call x_call (real_calls _) ?_
 rintro _ w1 ⟨bo, rfl, BO, hbo, k1⟩
 refine ⟨_, rfl, ?_⟩
 have hC1 : ∃ fz, Blk w1 1 243 fz (ints .u64 (ws kSha)) := by obtain ⟨fz, hc⟩ := hC; exact ⟨fz, hc.kp k1 fun h => h⟩
 (refine s_mv ?_; refine s_mv ?_)
 refine s_call x_call (new_calls sp bo key name ak an ck cn _ BO hC1 (hk.kpn k1) hkn (hn.kpn k1) hnn hl) ?_
 rintro _ w2 ⟨g, Dg, rfl, hG, hD, k2⟩
 refine ⟨_, rfl, ?_⟩
 (refine s_mv ?_; refine s_ex ?_; refine s_ex ?_; refine s_as ?_; refine s_as ?_; refine AtR_nil (At_seq (At_region ?_)); refine s_mv ?_; refine s_as ?_; refine AtR_nil ?_)
 refine At_ret1 Tryd.func24 rfl (by conv => lhs; whnf) ?_
 have z1 := k1.size
 have z2 := k2.size
 have := BO.lt
 refine ⟨g, bo, Dg, rfl, hG, fun j hj => ?_, k1.trans k2⟩
 rcases hD j hj with h | h | h
 ·exact .inl ⟨by omega, h.2⟩
 ·exact .inl ⟨by omega, by omega⟩
 ·exact .inr h
end Go.Proofs.YtfngacepjcdlnaaDoor
