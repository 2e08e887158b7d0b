/- Trees: what is being turned; a sector lost, a sector saved. | Trees: a sector saved. | Trees: a sector of pointers. -/
import Derived.Test.YtfngacepjcdlnaaDoorQMb
set_option linter.unusedVariables false
namespace Go.Mt
open Go Go.Kx Go.Proofs.YtfngacepjcdlnaaDoor
structure Ch where
 st : St
 saved : List Nat
 gone : List Nat
def natI (l : List Nat) : List Int := l.map fun (n : Nat) => (n : Int)
@[simp] theorem natI_length (l : List Nat) : (natI l).length = l.length := by simp [natI]
theorem natI_app (l m : List Nat) : natI (l ++ m) = natI l ++ natI m := by simp [natI]
structure ChAt (w : World) (c g sp bo : Nat) (key name : List UInt8) (ch : Ch) (Ds Dc Dg : Nat → Prop) : Prop where
 gr : GroveAt w g sp bo key name Dg
 stt : StAt w sp ch.st Ds
 row : ∃ av cv ag cg, Blk w c 149 (0, 0) [.pointer (some ⟨g, 0, none⟩), .slice av ch.saved.length cv, .slice ag ch.gone.length cg] ∧ Own w 3 1 av ch.saved.length cv (ints .i64 (natI ch.saved)) ∧ Own w 3 1 ag ch.gone.length cg (ints .i64 (natI ch.gone)) ∧ (∀ j, blkOf av j → Dc j) ∧ (∀ j, blkOf ag j → Dc j) ∧ ∀ j, blkOf av j → ¬ blkOf ag j
 dc : Dc c
 sc : ∀ j, Ds j → ¬ Dc j
 gs : ∀ j, Dg j → ¬ Ds j ∧ ¬ Dc j
 clt : ∀ j, Dc j → j < w.heap.size
 glt : ∀ j, Dg j → j < w.heap.size
theorem ChAt.kp {S : Nat → Prop} {w w' : World} {c g sp bo : Nat} {key name : List UInt8} {ch : Ch} {Ds Dc Dg : Nat → Prop} (h : ChAt w c g sp bo key name ch Ds Dc Dg) (k : Kp S w w') (hS : ∀ j, S j → ¬ Ds j ∧ ¬ Dc j ∧ ¬ Dg j) : ChAt w' c g sp bo key name ch Ds Dc Dg := by
 obtain ⟨av, cv, ag, cg, h1, h2, h3, h4, h5, h6⟩ := h.row
 exact ⟨h.gr.kp k fun j hj hs => (hS j hs).2.2 hj, h.stt.kp k fun j hj hs => (hS j hs).1 hj, ⟨av, cv, ag, cg, h1.kp k fun hs => (hS _ hs).2.1 h.dc, h2.kp k fun j hj hs => (hS j hs).2.1 (h4 j hj), h3.kp k fun j hj hs => (hS j hs).2.1 (h5 j hj), h4, h5, h6⟩, h.dc, h.sc, h.gs, fun j hj => Nat.lt_of_lt_of_le (h.clt j hj) k.size, fun j hj => Nat.lt_of_lt_of_le (h.glt j hj) k.size⟩
theorem ChAt.kpn {w w' : World} {c g sp bo : Nat} {key name : List UInt8} {ch : Ch} {Ds Dc Dg : Nat → Prop} (h : ChAt w c g sp bo key name ch Ds Dc Dg) (k : Kp No w w') : ChAt w' c g sp bo key name ch Ds Dc Dg := h.kp k fun _ hs => hs.elim
def ChTo (w w' : World) (c g sp bo : Nat) (key name : List UInt8) (Ds Dc Dg : Nat → Prop) (ch : Ch) : Prop :=
 ∃ Ds' Dc', ChAt w' c g sp bo key name ch Ds' Dc' Dg ∧ (∀ j, Ds' j ∨ Dc' j → Ds j ∨ Dc j ∨ w.heap.size ≤ j) ∧ Kp (fun j => Ds j ∨ Dc j) w w'
theorem chTo_same {w w' : World} {c g sp bo : Nat} {key name : List UInt8} {ch : Ch} {Ds Dc Dg : Nat → Prop} (h : ChAt w c g sp bo key name ch Ds Dc Dg) (k : Kp No w w') : ChTo w w' c g sp bo key name Ds Dc Dg ch :=
 ⟨Ds, Dc, h.kpn k, fun j hj => hj.elim .inl fun h => .inr (.inl h), k.mono fun _ h => h.elim⟩
theorem ChTo.before {w0 w w' : World} {c g sp bo : Nat} {key name : List UInt8} {ch : Ch} {Ds Dc Dg : Nat → Prop} (k : Kp No w0 w) (h : ChTo w w' c g sp bo key name Ds Dc Dg ch) : ChTo w0 w' c g sp bo key name Ds Dc Dg ch := by
 obtain ⟨Ds', Dc', h1, h2, h3⟩ := h
 have := k.size
 exact ⟨Ds', Dc', h1, fun j hj => (h2 j hj).imp id fun h => h.imp id fun h => by omega, (k.mono fun _ h => h.elim).trans h3⟩
theorem ChTo.after {w w1 w' : World} {c g sp bo : Nat} {key name : List UInt8} {ch : Ch} {Ds Dc Dg : Nat → Prop} (h : ChTo w w1 c g sp bo key name Ds Dc Dg ch) (k : Kp No w1 w') : ChTo w w' c g sp bo key name Ds Dc Dg ch := by
 obtain ⟨Ds', Dc', h1, h2, h3⟩ := h
 exact ⟨Ds', Dc', h1.kpn k, h2, h3.trans (k.mono fun _ h => h.elim)⟩
theorem ChTo.then {w w1 w2 : World} {c g sp bo : Nat} {key name : List UInt8} {ch ch2 : Ch} {Ds Dc Dg : Nat → Prop} (h : ChTo w w1 c g sp bo key name Ds Dc Dg ch)
  (h2 : ∀ Ds' Dc', ChAt w1 c g sp bo key name ch Ds' Dc' Dg → ChTo w1 w2 c g sp bo key name Ds' Dc' Dg ch2) : ChTo w w2 c g sp bo key name Ds Dc Dg ch2 := by
 obtain ⟨Ds', Dc', a1, a2, a3⟩ := h
 obtain ⟨Ds2, Dc2, b1, b2, b3⟩ := h2 Ds' Dc' a1
 have z := a3.size
 refine ⟨Ds2, Dc2, b1, fun j hj => ?_, a3.trans' b3 fun j hj => ?_⟩
 ·rcases b2 j hj with h | h | h
  ·exact a2 j (.inl h)
  ·exact a2 j (.inr h)
  ·right; right; omega
 ·rcases a2 j hj with h | h | h
  ·exact .inl (.inl h)
  ·exact .inl (.inr h)
  ·exact .inr h
def Ch.lose (ch : Ch) (p : Pr) : Ch := if p.sec = 0 then ch else ⟨ch.st, ch.saved, ch.gone ++ [p.sec]⟩
def Ch.save (key name : List UInt8) (ch : Ch) (lv fst : Nat) (b : List UInt8) : (Pr × Nat) × Ch :=
 if ch.st.room ≤ ch.st.count then ((Pr.zero, 12), ch) else ((⟨ch.st.b.length + 1, macB key name lv fst b⟩, 0), ⟨ch.st.save b, ch.saved ++ [ch.st.b.length + 1], ch.gone⟩)
structure Small (ch : Ch) (n : Nat) : Prop where
 b : ch.st.b.length + n ≤ 1000000
 saved : ch.saved.length + n ≤ 1000000
 gone : ch.gone.length + n ≤ 1000000
theorem Small.mono {ch : Ch} {n m : Nat} (h : Small ch n) (hm : m ≤ n) : Small ch m := ⟨by have := h.b; omega, by have := h.saved; omega, by have := h.gone; omega⟩
theorem Small.lose {ch : Ch} {n : Nat} (p : Pr) (h : Small ch (n + 1)) : Small (ch.lose p) n := by
 have h1 := h.b
 have h2 := h.saved
 have h3 := h.gone
 unfold Ch.lose
 split
 ·exact ⟨by omega, by omega, by omega⟩
 ·exact ⟨by simp only; omega, by simp only; omega, by simp only [List.length_append, List.length_singleton]; omega⟩
theorem Small.save {ch : Ch} {n : Nat} (key name : List UInt8) (lv fst : Nat) (b : List UInt8) (h : Small ch (n + 1)) : Small (ch.save key name lv fst b).2 n := by
 have h1 := h.b
 have h2 := h.saved
 have h3 := h.gone
 unfold Ch.save
 split
 ·exact ⟨by simp only; omega, by simp only; omega, by simp only; omega⟩
 ·refine ⟨?_, ?_, ?_⟩
  ·simp only [St.save, List.length_append, List.length_singleton]; omega
  ·simp only [List.length_append, List.length_singleton]; omega
  ·simp only; omega
end Go.Mt
namespace Go.Proofs.YtfngacepjcdlnaaDoor
open Go Go.Kx Go.Kr Go.Mt
set_option maxRecDepth 100000 in
set_option maxHeartbeats 8000000 in
theorem lose_calls (c g sp bo : Nat) (key name : List UInt8) (ch : Ch) (p : Pr) (w : World) {Ds Dc Dg : Nat → Prop} (h : ChAt w c g sp bo key name ch Ds Dc Dg) (hp : p.wf) (hsm : Small ch 1) :
  Calls Tryd.prog 106 #[.pointer (some ⟨c, 0, none⟩), .agg (prC p).toArray] w fun e w' => e = .returned (.tuple #[]) ∧ ChTo w w' c g sp bo key name Ds Dc Dg (ch.lose p) := by
 refine calls_at (n := 18) Tryd.func106 rfl rfl (by simp) ?_
 have hgone := hsm.gone
 (refine At_seq (At_region ?_))
 refine AtR_go rfl (AtG_box rfl fun b3 w1 hb3 e1 => ?_)
 have B3 : Blk w1 b3 38 (0, 0) (.int .i64 (p.sec : Int) :: ints .u8 (bs8 p.mac)) := e1.blk
 have k1 : Kp No w w1 := e1.kp (.inr (by omega))
 clear e1
 unfold Ch.lose
 (refine AtR_nil (At_seq (At_region ?_)); refine s_fa ?_; refine s_ld ?_)
 by_cases h0 : p.sec = 0
 ·rw [if_pos h0]
  (refine s_neq ?_; refine AtR_nil ?_; refine At_cond_f rfl ?_; refine At_skip ?_)
  exact At_end0 Tryd.func106 rfl ⟨rfl, chTo_same h k1⟩
 rw [if_neg h0]
 (refine s_neq ?_; refine AtR_nil ?_; refine At_cond_t rfl ?_)
 have kd := Kp.drew (S := No) (w := w1)
 have K := k1.trans kd
 obtain ⟨av, cv, ag, cg, hR, hOv, hOg, hDv, hDg, hvg⟩ := h.row
 have hR1 := hR.kp K fun h => h
 have hOg1 := hOg.kp K fun _ _ h => h
 let S : World → Prop := fun w' => Blk w' c 149 (0, 0) [.pointer (some ⟨g, 0, none⟩), .slice av ch.saved.length cv, .slice ag ch.gone.length cg] ∧ Blk w' b3 38 (0, 0) (.int .i64 (p.sec : Int) :: ints .u8 (bs8 p.mac))
 have hS : S w1.drew := ⟨hR1, B3.kp kd fun h => h⟩
 refine AtL_draw S 11 rfl ?_
 (apply AtL_take 0 rfl (by decide +kernel) (by exact rfl); (focus (intro wx hx; skip; exact x_move (by conv => lhs; whnf))); (focus (exact hS)))
 (apply AtL_take 1 rfl (by decide +kernel) (by exact rfl); (focus (intro wx hx; skip; exact x_move (by conv => lhs; whnf))); (focus (exact hS)))
 (apply AtL_take 2 rfl (by decide +kernel) (by exact rfl); (focus (intro wx hx; skip; exact x_nilCheck rfl)); (focus (exact hS)))
 (apply AtL_take 3 rfl (by decide +kernel) (by exact rfl); (focus (intro wx hx; skip; exact x_fieldAddrN rfl (by first | exact Nat.zero_add _ | exact Nat.add_zero _ | (simp only [Nat.reduceAdd] <;> rfl) | exact rfl))); (focus (exact hS)))
 (apply AtL_take 5 rfl (by decide +kernel) (by exact rfl); (focus (intro wx hx; skip; exact x_fieldAddrN rfl (by first | exact Nat.zero_add _ | exact Nat.add_zero _ | (simp only [Nat.reduceAdd] <;> rfl) | exact rfl))); (focus (exact hS)))
 refine AtL_take 4 rfl (by decide +kernel) (by exact rfl) (fun wx hx => x_load1 rfl hx.1 rfl) hS ?_
 refine AtL_take 6 rfl (by decide +kernel) (by exact rfl) (fun wx hx => x_load1 rfl hx.2 rfl) hS ?_
 refine L_val 7 rfl (by decide +kernel) (by exact rfl) (r_buildSlice1 (os := [_]) rfl rfl (by omega) rfl rfl rfl) ?_
 rintro _ w2 ⟨b7, rfl, hb7, e2⟩
 have B7 : Blk w2 b7 3 (0, 0) (ints .i64 [(p.sec : Int)]) := e2.blk
 have k2 : Kp No w1.drew w2 := e2.kp (.inr (by omega))
 clear e2
 have hS2 : S w2 := ⟨hS.1.kp k2 fun h => h, hS.2.kp k2 fun h => h⟩
 refine ⟨.inr hS2, ?_⟩
 have hOg2 := hOg1.kp k2 fun _ _ h => h
 refine L_val 8 rfl (by decide +kernel) (by exact rfl) (r_append rfl rfl hOg2 ((B7.sl (m := 1) rfl (by omega)).src (T := 75) rfl) rfl (by omega) (by simp only [maxLen]; omega) (by omega)) ?_
 rintro _ w3 ⟨a3, c3, rfl, hOg3, k3, hf3⟩
 have hcg : ¬ blkOf ag c := hOg2.ne hS2.1 (by decide)
 have hbg : ¬ blkOf ag b3 := hOg2.ne hS2.2 (by decide)
 have hS3 : S w3 := ⟨hS2.1.kp k3 hcg, hS2.2.kp k3 hbg⟩
 refine ⟨.inr hS3, ?_⟩
 clear hS
 have hS := hS3
 (apply AtL_take 9 rfl (by decide +kernel) (by exact rfl); (focus (intro wx hx; skip; exact x_nilCheck rfl)); (focus (exact hS)))
 (apply AtL_take 10 rfl (by decide +kernel) (by exact rfl); (focus (intro wx hx; skip; exact x_fieldAddrN rfl (by first | exact Nat.zero_add _ | exact Nat.add_zero _ | (simp only [Nat.reduceAdd] <;> rfl) | exact rfl))); (focus (exact hS)))
 refine L_skip 11 rfl (by decide +kernel) (by exact rfl) (r_store1 (v := .slice a3 (ch.gone.length + 1) c3) rfl rfl hS.1 (by simp) rfl rfl) ?_
 intro w4 e4
 refine ⟨.inl rfl, AtL_done (by decide +kernel) ?_⟩
 have B4 : Blk w4 c 149 (0, 0) [.pointer (some ⟨g, 0, none⟩), .slice av ch.saved.length cv, .slice a3 (ch.gone.length + 1) c3] := e4.blk
 have k4 : Kp (fun j => j = c) w3 w4 := e4.kp (.inl rfl)
 have K2 := K.trans k2
 have z2 := K2.size
 have z3 := k3.size
 have z4 := k4.size
 have ha3 : ∀ j, blkOf a3 j → blkOf ag j ∨ w2.heap.size ≤ j := fun j hj => by
  rcases hf3 with rfl | ⟨b, rfl, hb⟩
  ·exact .inl hj
  ·simp [blkOf] at hj; omega
 have hOv2 := hOv.kp K2 fun _ _ h => h
 have hOv3 := hOv2.kp k3 hvg
 have hOv4 := hOv3.kp k4 fun j hj e => hOv3.ne hS3.1 (by decide) (e ▸ hj)
 have hOg4 := hOg3.kp k4 fun j hj e => hOg3.ne hS3.1 (by decide) (e ▸ hj)
 have KC : Kp Dc w w4 := ((K2.mono fun _ h => h.elim).trans (k3.mono hDg)).trans (k4.mono (by rintro j rfl; exact h.dc))
 have hvlt := hOv.lt
 skip
 refine At_end0 Tryd.func106 rfl ⟨rfl, Ds, fun j => Dc j ∨ blkOf a3 j, ⟨h.gr.kp KC fun j hj hc => (h.gs j hj).2 hc, h.stt.kp KC fun j hj hc => h.sc j hj hc, ⟨av, cv, a3, c3, ?_, hOv4, ?_, fun j hj => .inl (hDv j hj), fun j hj => .inr hj, fun j hj hb => ?_⟩, .inl h.dc, ?_, ?_, ?_, ?_⟩, ?_, KC.mono fun j hj => .inr hj⟩
 ·simp only [List.length_append, List.length_singleton]; exact B4
 ·simp only [List.length_append, List.length_singleton, natI_app]
  rw [show ints .i64 (natI ch.gone ++ natI [p.sec]) = ints .i64 (natI ch.gone) ++ ints .i64 [(p.sec : Int)] by simp [ints, natI]]
  exact hOg4
 ·rcases ha3 j hb with h1 | h1
  ·exact hvg j hj h1
  ·have := hvlt j hj; omega
 ·rintro j hj (hc | hc)
  ·exact h.sc j hj hc
  ·rcases ha3 j hc with h1 | h1
   ·exact h.sc j hj (hDg j h1)
   ·have := h.stt.dlt j hj; omega
 ·refine fun j hj => ⟨(h.gs j hj).1, ?_⟩
  rintro (hc | hc)
  ·exact (h.gs j hj).2 hc
  ·rcases ha3 j hc with h1 | h1
   ·exact (h.gs j hj).2 (hDg j h1)
   ·have := h.glt j hj; omega
 ·rintro j (hc | hc)
  ·exact Nat.lt_of_lt_of_le (h.clt j hc) KC.size
  ·exact hOg4.lt j hc
 ·exact fun j hj => Nat.lt_of_lt_of_le (h.glt j hj) KC.size
 ·rintro j (hj | hj | hj)
  ·exact .inl hj
  ·exact .inr (.inl hj)
  ·rcases ha3 j hj with h1 | h1
   ·exact .inr (.inl (hDg j h1))
   ·right; right; omega
end Go.Proofs.YtfngacepjcdlnaaDoor
namespace Go.Mt
open Go Go.Kx Go.Proofs.YtfngacepjcdlnaaDoor
theorem ChAt.store {w w' : World} {c g sp bo : Nat} {key name : List UInt8} {ch : Ch} {st' : St} {Ds Dc Dg : Nat → Prop} (h : ChAt w c g sp bo key name ch Ds Dc Dg) (t : StTo w w' sp Ds st') :
  ∃ Ds', ChAt w' c g sp bo key name ⟨st', ch.saved, ch.gone⟩ Ds' Dc Dg ∧ (∀ j, Ds' j → Ds j ∨ w.heap.size ≤ j) ∧ Kp Ds w w' := by
 obtain ⟨Ds', hS, hD, k⟩ := t
 obtain ⟨av, cv, ag, cg, h1, h2, h3, h4, h5, h6⟩ := h.row
 refine ⟨Ds', ⟨h.gr.kp k fun j hj hs => (h.gs j hj).1 hs, hS, ⟨av, cv, ag, cg, h1.kp k fun hs => h.sc _ hs h.dc, h2.kp k fun j hj hs => h.sc j hs (h4 j hj), h3.kp k fun j hj hs => h.sc j hs (h5 j hj), h4, h5, h6⟩, h.dc, fun j hj hc => ?_, fun j hj => ⟨fun hs => ?_, (h.gs j hj).2⟩, fun j hj => Nat.lt_of_lt_of_le (h.clt j hj) k.size, fun j hj => Nat.lt_of_lt_of_le (h.glt j hj) k.size⟩, hD, k⟩
 ·rcases hD j hj with h1 | h1
  ·exact h.sc j h1 hc
  ·have := h.clt j hc; omega
 ·rcases hD j hs with h1 | h1
  ·exact (h.gs j hj).1 h1
  ·have := h.glt j hj; omega
end Go.Mt
namespace Go.Proofs.YtfngacepjcdlnaaDoor
open Go Go.Kx Go.Kr Go.Mt
theorem z38_len : z38.length = 33 := rfl
set_option maxRecDepth 100000 in
set_option maxHeartbeats 8000000 in
theorem save_calls (c g sp bo : Nat) (key name : List UInt8) (ch : Ch) (l : List UInt8) (lv fst : Nat) (a : Option Addr) (len cap : Nat) (w : World) {Ds Dc Dg Db : Nat → Prop} (h : ChAt w c g sp bo key name ch Ds Dc Dg)
  (hs : SlE w .u8 a len cap (bs8 l) Db) (hdb : ∀ j, Db j → ¬ Ds j ∧ ¬ Dc j) (hl : l.length = 512) (hlv : lv ≤ 5) (hf : fst ≤ 1000000) (hsm : Small ch 1) :
  Calls Tryd.prog 107 #[.pointer (some ⟨c, 0, none⟩), .slice a len cap, .agg (spC lv fst).toArray] w fun e w' =>
   e = .returned (.tuple #[.agg (prC (ch.save key name lv fst l).1.1).toArray, .int .i64 ((ch.save key name lv fst l).1.2 : Int)]) ∧ ChTo w w' c g sp bo key name Ds Dc Dg (ch.save key name lv fst l).2 := by
 have hsb := hsm.b
 have hss := hsm.saved
 refine calls_at (n := 45) Tryd.func107 rfl rfl (by simp) ?_
 (refine At_seq (At_region ?_))
 refine AtR_go rfl (AtG_box rfl fun b5 w1 hb5 e1 => ?_)
 have B5 : Blk w1 b5 153 (0, 0) (spC lv fst) := e1.blk
 have k1 : Kp No w w1 := e1.kp (.inr (by omega))
 clear e1
 refine AtR_go rfl (AtG_alloc fun b6 w2 hb6 e2 => ?_)
 have B6 : Blk w2 b6 38 (0, 0) z38 := e2.blk
 have k2 : Kp No w1 w2 := e2.kp (.inr (by omega))
 have z1 := k1.size
 have h56 : b5 ≠ b6 := by have := B5.lt; omega
 clear e2
 have K := k1.trans k2
 have h2 := h.kpn K
 obtain ⟨av, cv, ag, cg, hR, hOv, hOg, hDv, hDg, hvg⟩ := h2.row
 obtain ⟨ak, ck, an, cn, hG, _⟩ := h2.gr.row
 (refine s_as ?_; refine AtR_nil (At_seq (At_region ?_)); refine s_mv ?_; refine s_nc ?_; refine s_fa ?_; refine s_ld ?_; refine s_nc ?_; refine s_fa ?_; refine s_ld ?_; refine s_mv ?_)
 refine s_call (x_invoke rfl) (ssave_calls ch.st l sp a len cap _ h2.stt (hs.kpn K) (fun j hj hd => (hdb j hj).1 hd) hl (by omega)) ?_
 rintro e w3 hsv
 by_cases hfull : ch.st.room ≤ ch.st.count
 ·have hse : ch.save key name lv fst l = ((Pr.zero, 12), ch) := by unfold Ch.save; rw [if_pos hfull]
  rw [hse]
  rw [if_pos hfull] at hsv
  obtain ⟨rfl, hto⟩ := hsv
  refine ⟨_, rfl, ?_⟩
  obtain ⟨Ds', h3, hD', k3⟩ := h2.store hto
  have hn6 : ¬ Ds b6 := fun hd => by have := h.stt.dlt b6 hd; omega
  have B6' := B6.kp k3 hn6
  (refine s_mv ?_; refine s_ex ?_; refine s_ex ?_; refine s_as ?_; refine s_as ?_; refine AtR_nil (At_seq (At_seq (At_region ?_))); refine s_mv ?_; refine s_neq ?_; refine AtR_nil ?_; refine At_cond_t rfl ?_; refine At_seq (At_region ?_))
  refine s_val (x_build rfl built38_nil) ?_
  (refine s_mv ?_)
  refine AtR_go rfl (G_skip (r_store_all (s := 33) (vs := prC Pr.zero) rfl rfl B6' rfl rfl (prC_one _)) fun w4 e4 => ?_)
  (refine s_as ?_; refine AtR_nil ?_)
  have hc6 : ¬ Dc b6 := fun hd => by have := h.clt b6 hd; omega
  have hn6' : ¬ Ds' b6 := fun hd => by
   rcases hD' b6 hd with h1 | h1
   ·exact hn6 h1
   ·have := B6.lt; omega
  have hg6 : ¬ Dg b6 := fun hd => by have := h.glt b6 hd; omega
  have k4 : Kp (fun j => j = b6) w3 w4 := e4.kp (.inl rfl)
  have z2 := K.size
  have z3 := k3.size
  refine At_ret_cell2 (s := 33) Tryd.func107 rfl rfl e4.blk rfl rfl ⟨rfl, Ds', Dc, h3.kp k4 (by rintro j rfl; exact ⟨hn6', hc6, hg6⟩), ?_, ?_⟩
  ·rintro j (hj | hj)
   ·rcases hD' j hj with h1 | h1
    ·exact .inl h1
    ·right; right; omega
   ·exact .inr (.inl hj)
  ·exact ((K.mono fun _ h => h.elim).trans (k3.mono fun j hj => .inl hj)).trans' k4 (by rintro j rfl; right; omega)
 have hse : ch.save key name lv fst l = ((⟨ch.st.b.length + 1, macB key name lv fst l⟩, 0), ⟨ch.st.save l, ch.saved ++ [ch.st.b.length + 1], ch.gone⟩) := by unfold Ch.save; rw [if_neg hfull]
 rw [hse]
 rw [if_neg hfull] at hsv
 obtain ⟨rfl, hto⟩ := hsv
 refine ⟨_, rfl, ?_⟩
 obtain ⟨Ds', h3, hD', k3⟩ := h2.store hto
 have hn6 : ¬ Ds b6 := fun hd => by have := h.stt.dlt b6 hd; omega
 have hn5 : ¬ Ds b5 := fun hd => by have := h.stt.dlt b5 hd; omega
 have hc6 : ¬ Dc b6 := fun hd => by have := h.clt b6 hd; omega
 have hc5 : ¬ Dc b5 := fun hd => by have := h.clt b5 hd; omega
 have hg6 : ¬ Dg b6 := fun hd => by have := h.glt b6 hd; omega
 have hn6' : ¬ Ds' b6 := fun hd => by
  rcases hD' b6 hd with h1 | h1
  ·exact hn6 h1
  ·have := B6.lt; omega
 have l6 := B6.lt
 have B6a := B6.kp k3 hn6
 have B5a := (B5.kp k2 fun h => h).kp k3 hn5
 have hs3 : SlE w3 .u8 a len cap (bs8 l) Db := (hs.kpn K).kp k3 fun j hj hd => (hdb j hj).1 hd
 have z2 := K.size
 have z3 := k3.size
 clear hR hOv hOg hDv hDg hvg hG B5 B6 h2 hto
 obtain ⟨av3, cv3, ag3, cg3, hR, hOv, hOg, hDv, hDg, hvg⟩ := h3.row
 change Blk w3 c 149 (0, 0) [.pointer (some ⟨g, 0, none⟩), .slice av3 ch.saved.length cv3, .slice ag3 ch.gone.length cg3] at hR
 change Own w3 3 1 av3 ch.saved.length cv3 (ints .i64 (natI ch.saved)) at hOv
 change Own w3 3 1 ag3 ch.gone.length cg3 (ints .i64 (natI ch.gone)) at hOg
 (refine s_mv ?_; refine s_ex ?_; refine s_ex ?_; refine s_as ?_; refine s_as ?_; refine AtR_nil (At_seq (At_seq (At_region ?_))); refine s_mv ?_; refine s_neq ?_; refine AtR_nil ?_; refine At_cond_f rfl ?_; refine At_skip (At_seq (At_region ?_)); refine s_mv ?_; refine s_mv ?_; refine s_nc ?_; refine s_fa ?_; refine s_ld ?_; refine s_mv ?_)
 refine AtR_go rfl (AtG_buildSlice1 (ops := [_]) rfl rfl (by omega) rfl rfl rfl fun b7 w4 hb7 e4 => ?_)
 have B7 : Blk w4 b7 3 (0, 0) (ints .i64 [((ch.st.b.length + 1 : Nat) : Int)]) := e4.blk
 have k4 : Kp No w3 w4 := e4.kp (.inr (by omega))
 clear e4
 have hOv4 := hOv.kp k4 fun _ _ h => h
 refine AtR_go rfl (AtG_append (tx := 75) rfl rfl hOv4 ((B7.sl (m := 1) rfl (by omega)).src (T := 75) rfl) rfl (by omega) (by simp only [maxLen]; omega) (by omega) fun a8 c8 w5 hOv5 k5 hf5 => ?_)
 have hR4 := hR.kp k4 fun h => h
 have hcv : ¬ blkOf av3 c := hOv4.ne hR4 (by decide)
 have hR5 := hR4.kp k5 hcv
 have z4 := k4.size
 have z5 := k5.size
 (refine s_nc ?_; refine s_fa ?_)
 refine AtR_go rfl (G_skip (r_store1 (v := .slice a8 (ch.saved.length + 1) c8) rfl rfl hR5 (by simp) rfl rfl) fun w6 e6 => ?_)
 have B6c : Blk w6 c 149 (0, 0) [.pointer (some ⟨g, 0, none⟩), .slice a8 (ch.saved.length + 1) c8, .slice ag3 ch.gone.length cg3] := e6.blk
 have k6 : Kp (fun j => j = c) w5 w6 := e6.kp (.inl rfl)
 have z6 := k6.size
 clear e6
 have ha8 : ∀ j, blkOf a8 j → blkOf av3 j ∨ w4.heap.size ≤ j := fun j hj => by
  rcases hf5 with rfl | ⟨b, rfl, hb⟩
  ·exact .inl hj
  ·simp [blkOf] at hj; omega
 have hOg4 := hOg.kp k4 fun _ _ h => h
 have hOg5 := hOg4.kp k5 fun j hj hb => hvg j hb hj
 have hOg6 := hOg5.kp k6 fun j hj e => hOg5.ne hR5 (by decide) (e ▸ hj)
 have hOv6 := hOv5.kp k6 fun j hj e => hOv5.ne hR5 (by decide) (e ▸ hj)
 have KC : Kp Dc w3 w6 := ((k4.mono fun _ h => h.elim).trans (k5.mono hDv)).trans (k6.mono (by rintro j rfl; exact h.dc))
 have hglt := hOg.lt
 have h6 : ChAt w6 c g sp bo key name ⟨ch.st.save l, ch.saved ++ [ch.st.b.length + 1], ch.gone⟩ Ds' (fun j => Dc j ∨ blkOf a8 j) Dg := by
  refine ⟨h3.gr.kp KC fun j hj hc => (h3.gs j hj).2 hc, h3.stt.kp KC fun j hj hc => h3.sc j hj hc, ⟨a8, c8, ag3, cg3, ?_, ?_, hOg6, fun j hj => .inr hj, fun j hj => .inl (hDg j hj), fun j hj hb => ?_⟩, .inl h.dc, ?_, ?_, ?_, ?_⟩
  ·simp only [List.length_append, List.length_singleton]; exact B6c
  ·simp only [List.length_append, List.length_singleton, natI_app]
   rw [show ints .i64 (natI ch.saved ++ natI [ch.st.b.length + 1]) = ints .i64 (natI ch.saved) ++ ints .i64 [((ch.st.b.length + 1 : Nat) : Int)] by simp [ints, natI]]
   exact hOv6
  ·rcases ha8 j hj with h1 | h1
   ·exact hvg j h1 hb
   ·have := hglt j hb; omega
  ·rintro j hj (hc | hc)
   ·exact h3.sc j hj hc
   ·rcases ha8 j hc with h1 | h1
    ·exact h3.sc j hj (hDv j h1)
    ·have := h3.stt.dlt j hj; omega
  ·refine fun j hj => ⟨(h3.gs j hj).1, ?_⟩
   rintro (hc | hc)
   ·exact (h3.gs j hj).2 hc
   ·rcases ha8 j hc with h1 | h1
    ·exact (h3.gs j hj).2 (hDv j h1)
    ·have := h3.glt j hj; omega
  ·rintro j (hc | hc)
   ·exact Nat.lt_of_lt_of_le (h3.clt j hc) KC.size
   ·exact hOv6.lt j hc
  ·exact fun j hj => Nat.lt_of_lt_of_le (h3.glt j hj) KC.size
 have B6b := B6a.kp KC hc6
 have B5b := B5a.kp KC hc5
 have hs6 : SlE w6 .u8 a len cap (bs8 l) Db := hs3.kp KC fun j hj hd => (hdb j hj).2 hd
 have hD6 : ∀ j, Ds' j ∨ (Dc j ∨ blkOf a8 j) → Ds j ∨ Dc j ∨ w.heap.size ≤ j := by
  rintro j (hj | hj | hj)
  ·rcases hD' j hj with h1 | h1
   ·exact .inl h1
   ·right; right; omega
  ·exact .inr (.inl hj)
  ·rcases ha8 j hj with h1 | h1
   ·exact .inr (.inl (hDv j h1))
   ·right; right; omega
 have K6 : Kp (fun j => Ds j ∨ Dc j) w w6 := ((K.mono fun _ h => h.elim).trans (k3.mono fun j hj => .inl hj)).trans (KC.mono fun j hj => .inr hj)
 have hDv' := hDv
 clear hR hOv hOg hDv hDg hvg hOv4 hOv5 hR4 hR5 k4 k5 k6 B7 hOg4 hOg5 hOg6 hOv6 B6c h3 hs3 hs B6a B5a
 obtain ⟨av, cv, ag, cg, hR, _⟩ := h6.row
 (refine AtR_nil (At_seq ?_))
 have kd := Kp.drew (S := No) (w := w6)
 let S : World → Prop := fun w' => Blk w' c 149 (0, 0) [.pointer (some ⟨g, 0, none⟩), .slice av (ch.saved ++ [ch.st.b.length + 1]).length cv, .slice ag ch.gone.length cg] ∧ Blk w' b5 153 (0, 0) (spC lv fst)
 have hS : S w6.drew := ⟨hR.kp kd fun h => h, B5b.kp kd fun h => h⟩
 refine At_draw S rfl ?_
 (apply AtH_take 0 rfl (by decide +kernel) (by exact rfl); (focus (intro wx hx; skip; exact x_move (by conv => lhs; whnf))); (focus (exact hS)))
 (apply AtH_take 1 rfl (by decide +kernel) (by exact rfl); (focus (intro wx hx; skip; exact x_move (by conv => lhs; whnf))); (focus (exact hS)))
 (apply AtH_take 2 rfl (by decide +kernel) (by exact rfl); (focus (intro wx hx; skip; exact x_nilCheck rfl)); (focus (exact hS)))
 (apply AtH_take 3 rfl (by decide +kernel) (by exact rfl); (focus (intro wx hx; skip; exact x_fieldAddrN rfl (by first | exact Nat.zero_add _ | exact Nat.add_zero _ | (simp only [Nat.reduceAdd] <;> rfl) | exact rfl))); (focus (exact hS)))
 (apply AtH_take 6 rfl (by decide +kernel) (by exact rfl); (focus (intro wx hx; skip; exact x_move (by conv => lhs; whnf))); (focus (exact hS)))
 refine AtH_take 4 rfl (by decide +kernel) (by exact rfl) (fun wx hx => x_load1 rfl hx.1 rfl) hS ?_
 refine AtH_take 5 rfl (by decide +kernel) (by exact rfl) (fun wx hx => x_load_all rfl hx.2 rfl) hS ?_
 refine AtH_call 7 rfl (by decide +kernel) (by exact rfl) x_call  (mac_calls g sp bo key name lv fst l a _ cap _ (h6.gr.kpn kd) (hs6.kpn kd) (by omega) hlv hf) ?_
 rintro _ w7 ⟨rfl, k7⟩
 have hS7 : S w7 := ⟨hS.1.kp k7 fun h => h, hS.2.kp k7 fun h => h⟩
 refine ⟨_, rfl, hS7, ?_⟩
 clear hS
 have hS := hS7
 have hml := macB_length key name lv fst l
 refine AtH_take 8 rfl (by decide +kernel) (by exact rfl) (fun wx hx => x_build rfl (built38_e _ _ (by simp [hml]))) hS ?_
 have B6d := (B6b.kp kd fun h => h).kp k7 fun h => h
 have hwf : (⟨ch.st.b.length + 1, macB key name lv fst l⟩ : Pr).wf := ⟨hml, by simp only; omega⟩
 refine H_skip 9 rfl (by decide +kernel) (by exact rfl) (r_store_all (s := 33) (vs := prC ⟨ch.st.b.length + 1, macB key name lv fst l⟩) rfl rfl B6d (prC_length hwf) rfl (prC_one _)) ?_
 intro w8 e8
 have k8 : Kp (fun j => j = b6) w7 w8 := e8.kp (.inl rfl)
 have hcb : c ≠ b6 := fun e => hc6 (e ▸ h.dc)
 have hS8 : S w8 := ⟨hS.1.kp k8 hcb, hS.2.kp k8 h56⟩
 refine ⟨hS8, ?_⟩
 clear hS
 have hS := hS8
 (apply AtH_take 10 rfl (by decide +kernel) (by exact rfl); (focus (intro wx hx; skip; exact x_assign (by conv => lhs; whnf))); (focus (exact hS)))
 refine AtH_done (by decide +kernel) ?_
 skip
 have h8 := (h6.kpn (kd.trans k7)).kp k8 (by
  rintro j rfl
  refine ⟨hn6', ?_, hg6⟩
  rintro (hc | hc)
  ·exact hc6 hc
  ·rcases ha8 j hc with h1 | h1
   ·have := h6.clt j (.inr hc)
    exact hc6 (hDv' j h1)
   ·have := B6b.lt; omega)
 refine At_ret_cell2 (s := 33) Tryd.func107 rfl rfl e8.blk (prC_length hwf) rfl ⟨rfl, Ds', _, h8, hD6, ?_⟩
 exact (K6.trans ((kd.trans k7).mono fun _ h => h.elim)).trans' k8 (by rintro j rfl; right; omega)
end Go.Proofs.YtfngacepjcdlnaaDoor
namespace Go.Kx
open Go
theorem x_index_arrN {P : Program} {n : Nat} {env : Env} {w : World} {dst : Option Tmp} {ty : TypeId} {pos : String} {aft : Array Edge} {g : Option (Nat × Bool)} {T E : TypeId} {m s : Nat} [hT : TU P T (.array m E)] [hE : TAgg P E s] {x ix : Operand} {k : IntKind} {j : Nat} {cs vs : List Value}
  (hx : ev n env x = .agg cs.toArray) (hi : ev n env ix = .int k (j : Int)) (h1 : j < m) (hv : (cs.drop (j * s)).take s = vs) :
  Run P n env ⟨dst, .index T x ix, ty, pos, aft, g⟩ w (.ok (.value (.agg vs.toArray)) w) := by
 have he : cs.toArray.extract (j * s) (j * s + s) = vs.toArray := by
  rw [← hv]
  apply Array.ext'
  simp
 unfold Run
 simp [execOp, hx, hi, Instr.index, asIntOf, run_underlying hT.h, h1, run_sizeOf hE.hs, part, run_isAgg_agg]
 exact hv
theorem r_append_zerosR {P : Program} {n : Nat} {env : Env} {w : World} {dst : Option Tmp} {ty : TypeId} {pos : String} {aft : Array Edge} {g : Option (Nat × Bool)} {T tn E : TypeId} {z : Value} {y : Nat} {kn : IntKind} [hT : TU P T (.slice E)] [hN : TU P tn (.int kn)] [TZ P E z] [TSz P E 1] [TBy P E y] {xd xs : Operand} {ki : IntKind} {a : Option Addr} {m cap k : Nat} {cs : List Value}
  (hd : ev n env xd = .slice a m cap) (hx : ev n env xs = .int ki (k : Int)) (ho : Own w E 1 a m cap cs) (hz : one z = true) (h0 : 0 < k) (h63 : m + k ≤ maxLen) (hby : (m + k) * y ≤ 140737488355328) :
  ∃ v w', Run P n env ⟨dst, .call ⟨.builtin .append, #[xd, xs], #[T, tn]⟩, ty, pos, aft, g⟩ w (.ok (.value v) w') ∧
   ∃ a' cap', v = .slice a' (m + k) cap' ∧ Own w' E 1 a' (m + k) cap' (cs ++ List.replicate k z) ∧ Kp (blkOf a) w w' ∧ (a' = a ∨ ∃ b, a' = some ⟨b, 0, none⟩ ∧ w.heap.size ≤ b) := by
 by_cases hroom : cap < m + k
 ·obtain ⟨v, w', hr, b, cap', rfl, hb, hO, hk⟩ := r_append_zeros (P := P) (T := T) (E := E) (dst := dst) (ty := ty) (pos := pos) (aft := aft) (g := g) (tn := tn) hd hx ho hz h0 hroom h63 hby
  exact ⟨_, w', hr, _, cap', rfl, hO, hk.mono fun _ h => h.elim, .inr ⟨b, rfl, by omega⟩⟩
 obtain ⟨i, hi, hiz, hsz, hby'⟩ := info_of (P := P) (T := E) (z := z) (s := 1) (y := y)
 have hzc : z.cells = #[z] := by cases z <;> simp_all [one, Value.cells]
 obtain ⟨h1, h2, h3, h4⟩ := ho
 rcases h4 with ⟨rfl, rfl⟩ | ⟨b, sp, rfl, hB, hl⟩
 ·omega
 have hfit : m * 1 + (List.replicate k z).length ≤ (cs ++ sp).length := by rw [hl, List.length_replicate]; omega
 have hone : ∀ v ∈ List.replicate k z, v.oneCell' = true := fun v hv => by rw [List.eq_of_mem_replicate hv]; cases z <;> simp_all [one, Value.oneCell']
 obtain ⟨w', hr, hw⟩ := run_storeCells_eff (P := P) (b := b) (off := m * 1) (E := E) (List.replicate k z) 0 (cs ++ sp) w hB (by simpa using hfit) hone
 have hlay : lay (cs ++ sp) (m * 1 + 0) (List.replicate k z) = (cs ++ List.replicate k z) ++ sp.drop k := by
  simp only [lay, Nat.add_zero, ← h1, List.length_replicate]
  rw [List.take_left, List.drop_append]
  simp [List.drop_eq_nil_of_le]
 rw [hlay] at hw
 have hzs := zeroCells_one' (z := z) k
 rw [Nat.mul_one] at hr
 refine ⟨_, w', ?_, some ⟨b, 0, none⟩, cap, rfl, ⟨by simp; omega, by omega, h3, .inr ⟨b, sp.drop k, rfl, hw.blk, by simp only [List.length_append, List.length_drop, List.length_replicate] at hl hfit ⊢; omega⟩⟩, hw.kp (.inl rfl), .inl rfl⟩
 have hw64 : IntKind.i64.wrap (k : Int) = (k : Int) := i64_in (by omega) (by simp only [maxLen] at h63; omega)
 have h48 : ¬ (281474976710656 < (k : Int) * (i.bytes : Int)) := by
  have hle : k * i.bytes ≤ (m + k) * i.bytes := Nat.mul_le_mul_right _ (by omega)
  rw [← Int.natCast_mul]
  subst hby'
  omega
 have ha : (Builtin.append_ #[T, tn] ty #[.slice (some ⟨b, 0, none⟩) m cap, .int ki k]).run P w = .ok (.slice (some ⟨b, 0, none⟩) (m + k) cap) w' := by
  simp [Builtin.append_, run_underlying hT.h, run_underlying hN.h, sizeOf, typeInfo, zeroValue, hi, hiz, hsz, hw64, asInt, asIntOf, h48, show ¬ (k : Int) < 0 by omega, show ¬ k = 0 by omega, show m + k ≤ cap by omega, hzc, hzs, add_none, hr]
 unfold Run
 simp only [execOp, resolve, invoke, builtin, hd, hx, List.map_toArray, List.map_cons, List.map_nil, Sem.run_bind, Sem.run_pure, Result.andThen_ok, ha]
end Go.Kx
namespace Go.Mt
open Go Go.Kx Go.Proofs.YtfngacepjcdlnaaDoor
def psI (ps : List Pr) : List Int := ps.flatMap prI
theorem psI_inj : ∀ {ps qs : List Pr}, (∀ p ∈ ps, p.wf) → (∀ p ∈ qs, p.wf) → ps.length = qs.length → psI ps = psI qs → ps = qs
 | [], [], _, _, _, _ => rfl
 | p :: ps, q :: qs, hp, hq, hl, h => by
  have e1 : psI (p :: ps) = prI p ++ psI ps := rfl
  have e2 : psI (q :: qs) = prI q ++ psI qs := rfl
  rw [e1, e2] at h
  have hpl : (prI p).length = (prI q).length := by
   have := (hp p (List.mem_cons_self ..)).mac
   have := (hq q (List.mem_cons_self ..)).mac
   simp [prI, *]
  obtain ⟨h1, h2⟩ := List.append_inj h hpl
  rw [prI_inj h1, psI_inj (fun x hx => hp x (List.mem_cons_of_mem _ hx)) (fun x hx => hq x (List.mem_cons_of_mem _ hx)) (by simpa using hl) h2]
 | [], _ :: _, _, _, h, _ => by simp at h
 | _ :: _, [], _, _, h, _ => by simp at h
theorem psC_mkI : ∀ {ps : List Pr}, (∀ p ∈ ps, p.wf) → psC ps = mkI (List.replicate ps.length K38).flatten (psI ps) ∧ (List.replicate ps.length K38).flatten.length = (psI ps).length
 | [], _ => ⟨rfl, rfl⟩
 | p :: ps, hp => by
  obtain ⟨h1, h2⟩ := psC_mkI (ps := ps) fun x hx => hp x (List.mem_cons_of_mem _ hx)
  have hm := (hp p (List.mem_cons_self ..)).mac
  have e2 : psI (p :: ps) = prI p ++ psI ps := rfl
  have hk := prI_length hm
  rw [psC_cons, h1, prC_mkI hm, e2, List.length_cons, List.replicate_succ, List.flatten_cons, ← mkI_append hk]
  exact ⟨rfl, by rw [List.length_append, List.length_append, h2, hk]⟩
theorem K157_eq : K157 = (List.replicate 14 K38).flatten := by kernel_rfl
def packsB (ps : List Pr) : List UInt8 := ps.flatMap packB
theorem packsB_length : ∀ {ps : List Pr}, (∀ p ∈ ps, p.wf) → (packsB ps).length = ps.length * 36
 | [], _ => rfl
 | p :: ps, h => by
  have e : packsB (p :: ps) = packB p ++ packsB ps := rfl
  rw [e, List.length_append, packB_length (h p (List.mem_cons_self ..)), packsB_length (fun q hq => h q (List.mem_cons_of_mem _ hq)), List.length_cons]; omega
theorem packsB_snoc (ps : List Pr) (i : Nat) (h : i < ps.length) : packsB (ps.take (i + 1)) = packsB (ps.take i) ++ packB ps[i] := by
 rw [List.take_succ_eq_append_getElem h, packsB, List.flatMap_append]; simp [packsB]
def nodeB (ps : List Pr) : List UInt8 := packsB ps ++ List.replicate 8 0
def Ch.node (key name : List UInt8) (ch : Ch) (lv fst : Nat) (ps : List Pr) : (Pr × Nat) × Ch :=
 if ps = zeros then ((Pr.zero, 0), ch) else ch.save key name lv fst (nodeB ps)
theorem Small.node {ch : Ch} {n : Nat} (key name : List UInt8) (lv fst : Nat) (ps : List Pr) (h : Small ch (n + 1)) : Small (ch.node key name lv fst ps).2 n := by
 unfold Ch.node
 split
 ·exact h.mono (by omega)
 ·exact h.save key name lv fst _
theorem save_wf {ch : Ch} (key name : List UInt8) (lv fst : Nat) (b : List UInt8) (h : Small ch 1) : (ch.save key name lv fst b).1.1.wf := by
 have := h.b
 unfold Ch.save
 split
 ·exact zero_wf
 ·exact ⟨macB_length key name lv fst b, by simp only; omega⟩
theorem node_wf {ch : Ch} (key name : List UInt8) (lv fst : Nat) (ps : List Pr) (h : Small ch 1) : (ch.node key name lv fst ps).1.1.wf := by
 unfold Ch.node
 split
 ·exact zero_wf
 ·exact save_wf key name lv fst _ h
theorem psC_one_of {ps : List Pr} {i : Nat} (hw : ∀ p ∈ ps, p.wf) (hi : i < ps.length) : ((psC ps).drop (i * 33)).take 33 = prC ps[i] := by
 apply List.ext_getElem?
 intro j
 rw [List.getElem?_take, List.getElem?_drop]
 have hl := prC_length (hw ps[i] (List.getElem_mem hi))
 split
 ·have := psC_get [] hi hw (show j < 33 by omega)
  rw [List.append_nil] at this
  exact this
 ·rw [List.getElem?_eq_none (by omega)]
end Go.Mt
namespace Go.Proofs.YtfngacepjcdlnaaDoor
open Go Go.Kx Go.Kr Go.Mt
set_option maxRecDepth 100000 in
set_option maxHeartbeats 8000000 in
theorem node_calls (c g sp bo : Nat) (key name : List UInt8) (ch : Ch) (ps : List Pr) (lv fst : Nat) (w : World) {Ds Dc Dg : Nat → Prop} (h : ChAt w c g sp bo key name ch Ds Dc Dg) (hw : ∀ p ∈ ps, p.wf) (hps : ps.length = 14) (hlv : lv ≤ 5) (hf : fst ≤ 1000000) (hsm : Small ch 1) :
  Calls Tryd.prog 105 #[.pointer (some ⟨c, 0, none⟩), .agg (psC ps).toArray, .agg (spC lv fst).toArray] w fun e w' =>
   e = .returned (.tuple #[.agg (prC (ch.node key name lv fst ps).1.1).toArray, .int .i64 ((ch.node key name lv fst ps).1.2 : Int)]) ∧ ChTo w w' c g sp bo key name Ds Dc Dg (ch.node key name lv fst ps).2 := by
 refine calls_at (n := 34) Tryd.func105 rfl rfl (by simp) ?_
 have h462 := psC_len hw hps
 (refine At_seq (At_region ?_))
 refine AtR_go rfl (AtG_box rfl fun b4 w1 hb4 e1 => ?_)
 have B4 : Blk w1 b4 157 (0, 0) (psC ps) := e1.blk
 have k1 : Kp No w w1 := e1.kp (.inr (by omega))
 clear e1
 refine AtR_go rfl (AtG_box rfl fun b5 w2 hb5 e2 => ?_)
 have B5 : Blk w2 b5 153 (0, 0) (spC lv fst) := e2.blk
 have k2 : Kp No w1 w2 := e2.kp (.inr (by omega))
 have z1 := k1.size
 clear e2
 refine AtR_go rfl (AtG_alloc fun b6 w3 hb6 e3 => ?_)
 have B6 : Blk w3 b6 38 (0, 0) z38 := e3.blk
 have k3 : Kp No w2 w3 := e3.kp (.inr (by omega))
 have z2 := k2.size
 clear e3
 have K := (k1.trans k2).trans k3
 have B4' := B4.kp (k2.trans k3) fun h => h
 have B5' := B5.kp k3 fun h => h
 have l4 := B4.lt
 have l5 := B5.lt
 have l6 := B6.lt
 obtain ⟨hm1, hm2⟩ := psC_mkI hw
 rw [hps, ← K157_eq] at hm1 hm2
 obtain ⟨hz1, hz2⟩ := psC_mkI zeros_wf
 rw [show zeros.length = 14 from rfl, ← K157_eq] at hz1 hz2
 have hbz : Tryd.prog.built 157 [] = some (mkI K157 (psI zeros)).toArray := by rw [built157, ← psC_zeros, hz1]
 clear B4 B5 k1 k2 k3
 (refine s_as ?_; refine AtR_nil (At_seq (At_seq ?_)); refine At_region ?_)
 refine s_val (x_load_all (cs := mkI K157 (psI ps)) rfl (by rw [← hm1]; exact B4') (by rw [← hm1]; exact h462)) ?_
 refine s_val (x_build rfl hbz) ?_
 refine s_val (x_eql_flat rfl rfl hm2.symm hz2.symm) ?_
 unfold Ch.node
 by_cases hz : ps = zeros
 ·rw [decide_eq_true (by rw [hz]), if_pos hz]
  (refine AtR_nil ?_; refine At_cond_t rfl ?_; refine At_seq (At_region ?_))
  refine s_val (x_build rfl built38_nil) ?_
  skip
  refine AtR_go rfl (G_skip (r_store_all (s := 33) (vs := prC Pr.zero) rfl rfl B6 rfl rfl (prC_one _)) fun w4 e4 => ?_)
  (refine s_as ?_; refine AtR_nil ?_)
  have k4 : Kp (fun j => j = b6) w3 w4 := e4.kp (.inl rfl)
  have h4 := (h.kpn K).kp k4 (by rintro j rfl; exact ⟨fun hd => by have := h.stt.dlt j hd; omega, fun hd => by have := h.clt j hd; omega, fun hd => by have := h.glt j hd; omega⟩)
  refine At_ret_cell2 (s := 33) Tryd.func105 rfl rfl e4.blk rfl rfl ⟨rfl, Ds, Dc, h4, fun j hj => hj.elim .inl fun h => .inr (.inl h), (K.mono fun _ h => h.elim).trans' k4 (by rintro j rfl; right; omega)⟩
 rw [decide_eq_false (fun e => hz (psI_inj hw zeros_wf (by rw [hps]; rfl) e)), if_neg hz]
 (refine AtR_nil ?_; refine At_cond_f rfl ?_; refine At_skip (At_seq (At_region ?_)); refine s_as ?_; refine AtR_nil (At_seq (At_seq ?_)); refine At_region ?_)
 refine s_val (x_load_all rfl B4' h462) ?_
 (refine s_mv ?_; refine AtR_nil (At_block ?_))
 refine At_while (fun s : Nat × Option Addr × Nat => [(0, .pointer (some ⟨c, 0, none⟩)), (5, .pointer (some ⟨b5, 0, none⟩)), (6, .pointer (some ⟨b6, 0, none⟩)), (8, .slice s.2.1 (36 * s.1) s.2.2), (15, .agg (psC ps).toArray), (16, .int .i64 (s.1 : Int))])
  (fun s w' => s.1 ≤ 14 ∧ Own w' 5 1 s.2.1 (36 * s.1) s.2.2 (ints .u8 (bs8 (packsB (ps.take s.1)))) ∧ (∀ j, blkOf s.2.1 j → w3.heap.size ≤ j) ∧ Kp No w3 w') (fun s => 14 - s.1) (0, none, 0) ⟨rfl, rfl, rfl, rfl, rfl, rfl, trivial⟩
  ⟨by omega, Own.nil _ _ _, fun j hj => by simp [blkOf] at hj, Kp.refl _ _⟩ ?_
 rintro ⟨i, a8, c8⟩ w4 junk ⟨hi, ho, hfr, K4⟩ again
 simp only at hi ho hfr again ⊢
 by_cases hlt : i < 14
 ·have hlp : i < ps.length := by omega
  have hwi := hw ps[i] (List.getElem_mem hlp)
  have hl33 := prC_length hwi
  (refine At_seq (At_region ?_); refine s_lss ?_; refine AtR_nil (At_seq ?_); refine At_cond_t rfl ?_; refine At_skip (At_seq (At_block (At_seq ?_))); refine At_region ?_)
  refine s_val (x_index_arrN rfl rfl hlt (psC_one_of hw hlp)) ?_
  refine AtR_go rfl (AtG_alloc fun b10 w5 hb10 e5 => ?_)
  refine AtR_go rfl (G_skip (r_store_all (s := 33) rfl rfl e5.blk hl33 rfl (prC_one _)) fun w6 e6 => ?_)
  have B10 : Blk w6 b10 38 (0, 0) (prC ps[i]) := e6.blk
  have k6 : Kp No w4 w6 := (e5.kp (S := No) (.inr (by omega))).trans' (e6.kp (S := fun j => j = b10) (.inl rfl)) (by rintro j rfl; right; omega)
  clear e5 e6
  (refine AtR_nil (At_region ?_); refine s_mv ?_)
  refine s_val (x_load_all rfl B10 hl33) ?_
  refine s_call x_call (pack_calls ps[i] _ hwi) ?_
  rintro _ w7 ⟨a7, c7, rfl, ho7, hf7, k7⟩
  refine ⟨_, rfl, ?_⟩
  have ho8 := ho.kp (k6.trans k7) fun _ _ h => h
  have z46 := (k6.trans k7).size
  have z34 := K4.size
  refine AtR_go rfl (AtG_append (tx := 31) rfl rfl ho8 ((ho7.sl).src (T := 31) rfl) rfl (by omega) (by simp only [maxLen]; omega) (by omega) fun a9 c9 w8 ho9 k8 hf9 => ?_)
  have K8 : Kp No w3 w8 := (K4.trans (k6.trans k7)).trans' k8 fun j hj => .inr (hfr j hj)
  (refine s_as ?_; refine AtR_nil (At_inBlock (At_region ?_)); refine s_ad ?_; refine s_mv ?_; refine AtR_nil ?_)
  rw [show 36 * i + 36 = 36 * (i + 1) by omega] at ho9 ⊢
  refine again (i + 1, a9, c9) _ _ ⟨rfl, rfl, rfl, rfl, rfl, rfl, trivial⟩ ⟨hlt, own_eq ho9 ?_ rfl, fun j hj => ?_, K8⟩ (by simp only; omega)
  ·rw [packsB_snoc ps i hlp]; simp [bs8, ints]
  ·rcases hf9 with rfl | ⟨b, rfl, hb⟩
   ·exact hfr j hj
   ·simp [blkOf] at hj; omega
 have hie : i = 14 := by omega
 subst hie
 clear again
 rw [List.take_of_length_le (by omega)] at ho
 have B5a := B5'.kp K4 fun h => h
 have B6a := B6.kp K4 fun h => h
 have z34 := K4.size
 (refine At_seq (At_region ?_); refine s_lss ?_; refine AtR_nil (At_seq ?_); refine At_cond_f rfl ?_; refine At_exit rfl ?_; refine At_seq ?_)
 have kd := Kp.drew (S := No) (w := w4)
 refine At_draw (fun w' => Blk w' b5 153 (0, 0) (spC lv fst)) rfl ?_
 have hS : Blk w4.drew b5 153 (0, 0) (spC lv fst) := B5a.kp kd fun h => h
 (apply AtH_take 0 rfl (by decide +kernel) (by exact rfl); (focus (intro wx hx; skip; exact x_move (by conv => lhs; whnf))); (focus (exact hS)))
 (apply AtH_take 1 rfl (by decide +kernel) (by exact rfl); (focus (intro wx hx; skip; exact x_move (by conv => lhs; whnf))); (focus (exact hS)))
 (apply AtH_take 2 rfl (by decide +kernel) (by exact rfl); (focus (intro wx hx; skip; exact x_move (by conv => lhs; whnf))); (focus (exact hS)))
 (apply AtH_take 3 rfl (by decide +kernel) (by exact rfl); (focus (intro wx hx; skip; exact x_len_slice rfl)); (focus (exact hS)))
 (apply AtH_take 4 rfl (by decide +kernel) (by exact rfl); (focus (intro wx hx; skip; exact x_sub64 rfl rfl (by omega) (by omega))); (focus (exact hS)))
 refine AtH_take 6 rfl (by decide +kernel) (by exact rfl) (fun wx hx => x_load_all rfl hx rfl) hS ?_
 have hod := ho.kp kd fun _ _ h => h
 refine H_val 5 rfl (by decide +kernel) (by exact rfl) (r_append_zerosR (k := 8) (z := .int .u8 0) rfl rfl hod rfl (by omega) (by simp only [maxLen]; omega) (by omega)) ?_
 rintro _ w5 ⟨a9, c9, rfl, ho9, k9, hf9⟩
 have hn5 : ¬ blkOf a8 b5 := fun hj => by have := hfr b5 hj; omega
 have hS5 : Blk w5 b5 153 (0, 0) (spC lv fst) := hS.kp k9 hn5
 refine ⟨hS5, ?_⟩
 have K5 : Kp No w w5 := K.trans ((K4.trans kd).trans' k9 fun j hj => .inr (hfr j hj))
 have hnb : nodeB ps = packsB ps ++ List.replicate 8 0 := rfl
 have ho9' : Own w5 5 1 a9 512 c9 (ints .u8 (bs8 (nodeB ps))) := own_eq ho9 (by rw [hnb]; simp [bs8, ints, ub]) (by omega)
 have hnl : (nodeB ps).length = 512 := by rw [hnb, List.length_append, packsB_length hw, hps]; simp
 have hf9' : ∀ j, blkOf a9 j → w3.heap.size ≤ j := fun j hj => by
  rcases hf9 with rfl | ⟨b, rfl, hb⟩
  ·exact hfr j hj
  ·simp [blkOf] at hj; have := kd.size; omega
 clear hS
 have hS := hS5
 have hno : ∀ j, w.heap.size ≤ j → ¬ Ds j ∧ ¬ Dc j ∧ ¬ Dg j := fun j hj => ⟨fun hd => by have := h.stt.dlt j hd; omega, fun hd => by have := h.clt j hd; omega, fun hd => by have := h.glt j hd; omega⟩
 have z0 := K.size
 refine AtH_call 7 rfl (by decide +kernel) (by exact rfl) x_call  (save_calls c g sp bo key name ch (nodeB ps) lv fst a9 512 c9 _ (h.kpn K5) (ho9'.sl.e (D := fun j => w3.heap.size ≤ j) hf9') (fun j hj => ⟨(hno j (by omega)).1, (hno j (by omega)).2.1⟩) hnl hlv hf hsm) ?_
 have hqw := save_wf key name lv fst (nodeB ps) hsm
 generalize ch.save key name lv fst (nodeB ps) = res at *
 obtain ⟨⟨q, cd⟩, ch'⟩ := res
 rintro _ w6 ⟨rfl, Ds', Dc', h6, hD6, k6⟩
 simp only
 have h5no := hno b5 (by omega)
 have h6no := hno b6 (by omega)
 have hS6 : Blk w6 b5 153 (0, 0) (spC lv fst) := hS.kp k6 fun hd => hd.elim h5no.1 h5no.2.1
 refine ⟨_, rfl, hS6, ?_⟩
 clear hS
 have hS := hS6
 (apply AtH_take 8 rfl (by decide +kernel) (by exact rfl); (focus (intro wx hx; skip; exact x_extract rfl rfl)); (focus (exact hS)))
 (apply AtH_take 9 rfl (by decide +kernel) (by exact rfl); (focus (intro wx hx; skip; exact x_extract rfl rfl)); (focus (exact hS)))
 have hn6 : ¬ blkOf a8 b6 := fun hj => by have := hfr b6 hj; omega
 have B6b := ((B6a.kp kd fun h => h).kp k9 hn6).kp k6 fun hd => hd.elim h6no.1 h6no.2.1
 have hq33 := prC_length hqw
 refine H_skip 10 rfl (by decide +kernel) (by exact rfl) (r_store_all (s := 33) (vs := prC q) rfl rfl B6b hq33 rfl (prC_one _)) ?_
 intro w7 e7
 have k7 : Kp (fun j => j = b6) w6 w7 := e7.kp (.inl rfl)
 have hS7 : Blk w7 b5 153 (0, 0) (spC lv fst) := hS.kp k7 (by omega)
 refine ⟨hS7, ?_⟩
 clear hS
 have hS := hS7
 (apply AtH_take 11 rfl (by decide +kernel) (by exact rfl); (focus (intro wx hx; skip; exact x_assign (by conv => lhs; whnf))); (focus (exact hS)))
 refine AtH_done (by decide +kernel) ?_
 skip
 have z5 := K5.size
 have h7 := h6.kp k7 (by
  rintro j rfl
  refine ⟨fun hd => ?_, fun hd => ?_, h6no.2.2⟩
  ·rcases hD6 j (.inl hd) with h1 | h1 | h1
   ·exact h6no.1 h1
   ·exact h6no.2.1 h1
   ·have := (B6a.kp kd fun h => h).lt; have := k9.size; omega
  ·rcases hD6 j (.inr hd) with h1 | h1 | h1
   ·exact h6no.1 h1
   ·exact h6no.2.1 h1
   ·have := (B6a.kp kd fun h => h).lt; have := k9.size; omega)
 refine At_ret_cell2 (s := 33) Tryd.func105 rfl rfl e7.blk hq33 rfl ⟨rfl, Ds', Dc', h7, fun j hj => (hD6 j hj).imp id fun h => h.imp id fun h => by omega, ?_⟩
 exact ((K5.mono fun _ h => h.elim).trans k6).trans' k7 (by rintro j rfl; right; omega)
end Go.Proofs.YtfngacepjcdlnaaDoor
