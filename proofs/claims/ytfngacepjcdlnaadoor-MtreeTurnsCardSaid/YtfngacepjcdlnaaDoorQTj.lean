/- Trees, plainly: a cut and turns, all at once. Own work. | Trees: a block taken from below a place. | Trees: one turn of a tree. -/
import Derived.Test.YtfngacepjcdlnaaDoorQNp
import Derived.Test.YtfngacepjcdlnaaDoorQTb
import Derived.Test.YtfngacepjcdlnaaDoorQPi
import Derived.Test.YtfngacepjcdlnaaDoorQMh
set_option linter.unusedVariables false
namespace Go.Mt
open Go Go.Kx Go.Proofs.YtfngacepjcdlnaaDoor
theorem rem_fine {key name : List UInt8} : ∀ (lv fst : Nat) (p : Pr) (i : Nat) (ch : Ch) (m : Nat), p.wf → Nums ch → Small ch (2 * lv + 2 + m) → Fine m (remP key name lv fst p i ch)
 | 0, fst, p, i, ch, m, hp, hn, hs => by
  rw [remP]
  split
  ·exact ⟨hs.mono (by omega), hp, hn⟩
  ·exact ⟨Small.lose p (hs.mono (by omega)), zero_wf, hn.lose hp⟩
 | lv + 1, fst, p, i, ch, m, hp, hn, hs => by
  rw [remP]
  split
  ·exact ⟨hs.mono (by omega), hp, hn⟩
  ·cases hps : ptsP key name ch.st p (lv + 1) fst with
   | none => exact ⟨hs.mono (by omega), zero_wf, hn⟩
   | some ps =>
    simp only
    obtain ⟨hw, h14⟩ := ptsP_wf hn.all hps
    obtain ⟨h1, h2, h3⟩ := rem_fine (key := key) (name := name) lv (fst + (i - fst) / roomN lv * roomN lv) (ps.getD ((i - fst) / roomN lv) Pr.zero) i ch (m + 2) (getD_wf hw _) hn (hs.mono (by omega))
    generalize remP key name lv (fst + (i - fst) / roomN lv * roomN lv) (ps.getD ((i - fst) / roomN lv) Pr.zero) i ch = R at *
    obtain ⟨⟨q, c⟩, ch2⟩ := R
    simp only at h1 h2 h3 ⊢
    split
    ·split
     ·exact ⟨h1.mono (by omega), hp, h3⟩
     ·exact node_fine (Small.lose p (h1.mono (by omega))) (h3.lose hp) (wf_set hw h2) (by rw [List.length_set]; exact h14)
    ·exact ⟨h1.mono (by omega), zero_wf, h3⟩
def TFine (m : Nat) (s : (Pr × Nat × Nat) × Ch) : Prop := Small s.2 m ∧ s.1.1.wf ∧ Nums s.2 ∧ s.1.2.1 ≤ 5
theorem TFine.mono {m n : Nat} {s : (Pr × Nat × Nat) × Ch} (h : TFine m s) (hn : n ≤ m) : TFine n s := ⟨h.1.mono hn, h.2.1, h.2.2.1, h.2.2.2⟩
theorem turnP_fine {key name : List UInt8} {r : Pr} {d i m : Nat} {b : List UInt8} {ch : Ch} (hr : r.wf) (hd : d ≤ 5) (hn : Nums ch) (hs : Small ch (24 + m)) (hi : i < roomN 5) (hb : b = [] ∨ b.length = 512) : TFine m (turnP key name r d i b ch) := by
 unfold turnP
 split
 ·split
  ·obtain ⟨h1, h2, h3⟩ := rem_fine (key := key) (name := name) d 0 r i ch m hr hn (hs.mono (by omega))
   exact ⟨h1, h2, h3, hd⟩
  ·exact ⟨hs.mono (by omega), hr, hn, hd⟩
 ·rename_i hb0
  obtain ⟨h1, h2, h3, h4, h5⟩ := deepP_ok key name i (12 + m) hi (5 - d) d r ch (by omega) hr hn (hs.mono (by omega))
  split
  ·exact ⟨putP_small key name _ 0 _ i b _ m (h1.mono (by omega)), putP_wf key name _ 0 _ i b _ (h1.mono (by omega)), Nums.put key name _ 0 _ i b _ h2 h3 (hb.resolve_left hb0) (h1.mono (by omega)), h4⟩
  ·exact ⟨h1.mono (by omega), h3, h2, h4⟩
def turn1 (key name : List UInt8) (s : (Pr × Nat × Nat) × Ch) (x : Nat × List UInt8) : (Pr × Nat × Nat) × Ch :=
 if s.1.2.2 = 0 then turnP key name s.1.1 s.1.2.1 x.1 x.2 s.2 else s
def okX (x : Nat × List UInt8) : Prop := x.1 < roomN 5 ∧ (x.2 = [] ∨ x.2.length = 512)
theorem turn1_fine {key name : List UInt8} {s : (Pr × Nat × Nat) × Ch} {x : Nat × List UInt8} {m : Nat} (h : TFine (24 + m) s) (hx : okX x) : TFine m (turn1 key name s x) := by
 unfold turn1
 split
 ·exact turnP_fine h.2.1 h.2.2.2 h.2.2.1 h.1 hx.1 hx.2
 ·exact h.mono (by omega)
theorem turns_fine {key name : List UInt8} : ∀ {xs : List (Nat × List UInt8)} {s : (Pr × Nat × Nat) × Ch} {m : Nat}, TFine (24 * xs.length + m) s → (∀ x ∈ xs, okX x) → TFine m (xs.foldl (turn1 key name) s)
 | [], s, m, h, _ => h.mono (by omega)
 | x :: xs, s, m, h, hx => by
  rw [List.foldl_cons]
  exact turns_fine (turn1_fine (h.mono (by rw [List.length_cons]; omega)) (hx x (List.mem_cons_self ..))) fun y hy => hx y (List.mem_cons_of_mem _ hy)
def cut1 (key name : List UInt8) (st : St) (r : Pr) (d n : Nat) : (Pr × Nat × Nat) × Ch := (((cutP key name d 0 r n ⟨st, [], []⟩).1.1, d, (cutP key name d 0 r n ⟨st, [], []⟩).1.2), (cutP key name d 0 r n ⟨st, [], []⟩).2)
def turnT (key name : List UInt8) (st : St) (r : Pr) (d n : Nat) (xs : List (Nat × List UInt8)) : (Pr × Nat × Nat) × Ch := xs.foldl (turn1 key name) (cut1 key name st r d n)
def turnS (key name : List UInt8) (st : St) (r : Pr) (d n : Nat) (xs : List (Nat × List UInt8)) : St := dropAll (turnT key name st r d n xs).2.st ((turnT key name st r d n xs).2.goes (turnT key name st r d n xs).1.2.2)
theorem cut1_fine {key name : List UInt8} {st : St} {r : Pr} {d n m : Nat} (hr : r.wf) (hd : d ≤ 5) (hall : ∀ l ∈ st.b, l.length = 512) (hb : st.b.length + m ≤ 379434) : TFine m (cut1 key name st r d n) := by
 have hst := stp_le hd
 obtain ⟨h1, h2, h3⟩ := cut_fine (key := key) (name := name) (n := n) d 0 r ⟨st, [], []⟩ m hr ⟨(fun n hn => by cases hn), (fun n hn => by cases hn), hall⟩ ⟨by simp only; omega, by simp only [List.length_nil]; omega, by simp only [List.length_nil]; omega⟩
 exact ⟨h1, h2, h3, hd⟩
def Mid (key name : List UInt8) (st : St) (S : List Nat) (f : Nat → Option (List UInt8)) (s : (Pr × Nat × Nat) × Ch) : Prop :=
 ∃ N G, Step ⟨st, [], []⟩ s.2 N G ∧ ((s.1.2.2 = 0 ∧ s.1.2.1 ≤ 5 ∧ (∀ j, roomN s.1.2.1 ≤ j → f j = none) ∧ ∃ S', Rep key name s.2.st s.1.2.1 0 s.1.1 f S' ∧ ∀ a, S'.count a + G.count a = S.count a + N.count a) ∨ s.1.2.2 = 12)
theorem mid_turn {key name : List UInt8} {st : St} {S : List Nat} {f : Nat → Option (List UInt8)} {s : (Pr × Nat × Nat) × Ch} {x : Nat × List UInt8} (h : Mid key name st S f s) (ho : st.ok) (hs : Small s.2 24) (hx : okX x) : Mid key name st S (upd f x.1 (opt x.2)) (turn1 key name s x) := by
 obtain ⟨N, G, s1, h2⟩ := h
 unfold turn1
 rcases h2 with ⟨c0, hd, hout, S', hrep, hcnt⟩ | c12
 ·rw [if_pos c0]
  obtain ⟨N2, G2, t1, _, _, t2⟩ := turn_rep (b := x.2) hrep hd hout (s1.1.ok ho) hx.1 hs
  refine ⟨N ++ N2, G ++ G2, s1.trans t1, ?_⟩
  rcases t2 with ⟨c1, hd1, hout1, S2, hrep1, hcnt1⟩ | c1
  ·refine .inl ⟨c1, hd1, hout1, S2, hrep1, fun a => ?_⟩
   have e1 := hcnt a
   have e2 := hcnt1 a
   simp only [List.count_append]
   omega
  ·exact .inr c1
 ·rw [if_neg (by omega)]
  exact ⟨N, G, s1, .inr c12⟩
theorem mid_turns {key name : List UInt8} {st : St} {S : List Nat} (ho : st.ok) : ∀ {xs : List (Nat × List UInt8)} {f : Nat → Option (List UInt8)} {s : (Pr × Nat × Nat) × Ch}, Mid key name st S f s → TFine (24 * xs.length) s → (∀ x ∈ xs, okX x) → Mid key name st S (xs.foldl (fun f x => upd f x.1 (opt x.2)) f) (xs.foldl (turn1 key name) s)
 | [], f, s, h, _, _ => h
 | x :: xs, f, s, h, hf, hx => by
  rw [List.foldl_cons, List.foldl_cons]
  have hl : 24 * (x :: xs).length = 24 + 24 * xs.length := by rw [List.length_cons]; omega
  have hx0 := hx x (List.mem_cons_self ..)
  exact mid_turns ho (mid_turn h ho (hf.1.mono (by omega)) hx0) (turn1_fine (hf.mono (by omega)) hx0) fun y hy => hx y (List.mem_cons_of_mem _ hy)
def listX (l : BlL) (x : Nat × List UInt8) : BlL := if x.2 = [] then l.filter (wouLF (x.1 : Int)) else putF l x.1 x.2
theorem Bl.turns : ∀ {xs : List (Nat × List UInt8)} {l : BlL} {f : Nat → Option (List UInt8)}, Bl l f → Bl (xs.foldl listX l) (xs.foldl (fun f x => upd f x.1 (opt x.2)) f)
 | [], l, f, h => h
 | x :: xs, l, f, h => by
  rw [List.foldl_cons, List.foldl_cons]
  refine Bl.turns ?_
  unfold listX opt
  split
  ·have hf : l.filter (wouLF (x.1 : Int)) = l.filter fun e => decide (e.1 ≠ x.1) := List.filter_congr fun y _ => by unfold wouLF; apply decide_eq_decide.2; omega
   rw [hf]; exact h.without x.1
  ·exact h.put x.1 x.2
theorem Ttold.turns {key name : List UInt8} {st : St} {r : Pr} {d : Nat} {l : BlL} {R n k : Nat} {xs : List (Nat × List UInt8)} (h : Ttold key name st r d l R n) (hall : ∀ l ∈ st.b, l.length = 512) (hn : n * R ≤ 300000) (hx : ∀ x ∈ xs, okX x) (hxl : xs.length ≤ 100) :
  ((turnT key name st r d k xs).1.2.2 = 0 ∧ Ttold key name (turnS key name st r d k xs) (turnT key name st r d k xs).1.1 (turnT key name st r d k xs).1.2.1 (xs.foldl listX (l.filter (cutLF (k : Int)))) R (n + 1)) ∨ ((turnT key name st r d k xs).1.2.2 = 12 ∧ Ttold key name (turnS key name st r d k xs) r d l R (n + 1)) := by
 obtain ⟨f, S, ht, hb, hH⟩ := h.ex
 have hlen := h.len
 have hst := stp_le ht.le
 have hf : l.filter (cutLF (k : Int)) = l.filter fun e => decide (e.1 < k) := List.filter_congr fun x _ => by unfold cutLF; apply decide_eq_decide.2; omega
 rw [hf]
 obtain ⟨N0, G0, s0, _, _, h0⟩ := cut_rep (key := key) (name := name) (n := k) (ch := ⟨st, [], []⟩) ht.rep hH.1 ⟨by simp only; omega, by simp; omega, by simp; omega⟩
 have hmid : Mid key name st S (ahead f k) (cut1 key name st r d k) := ⟨N0, G0, s0, h0.imp (fun h => ⟨h.1, ht.le, ahead_out ht.out, h.2⟩) And.left⟩
 obtain ⟨N, G, s1, h2⟩ := mid_turns hH.1 hmid (cut1_fine (key := key) (name := name) (n := k) (m := 24 * xs.length) (ht.wf (by omega)) ht.le hall (by omega)) hx
 refine h.done ht hb hH ((hb.cut k).turns (xs := xs)) (done_of (X := []) s1 (by simpa using hH) (by rw [h.room]; exact h.cnt) (fun c => ?_) (fun c => ?_) (h2.imp (fun h => ⟨h.1, h.2.2.2⟩) id))
 ·rcases h2 with h2 | h2
  ·exact h2.2.1
  ·have c' : (xs.foldl (turn1 key name) (cut1 key name st r d k)).1.2.2 = 0 := c
   omega
 ·rcases h2 with h2 | h2
  ·exact h2.2.2.1
  ·have c' : (xs.foldl (turn1 key name) (cut1 key name st r d k)).1.2.2 = 0 := c
   omega
end Go.Mt
namespace Go.Proofs.YtfngacepjcdlnaaDoor
open Go Go.Kx Go.Kr Go.Mt
def RemAt (key name : List UInt8) (c g sp bo lv : Nat) : Prop :=
 ∀ (fst : Nat) (p : Pr) (i : Nat) (ch : Ch) (w : World) (Ds Dc Dg : Nat → Prop), ChAt w c g sp bo key name ch Ds Dc Dg → p.wf → Nums ch → fst + roomN lv ≤ 537824 → fst ≤ i → i < fst + roomN lv → Small ch (2 * lv + 2) →
  Calls Tryd.prog 114 #[.pointer (some ⟨c, 0, none⟩), .agg (prC p).toArray, .agg (spC lv fst).toArray, .int .i64 (i : Int)] w fun e w' =>
   e = .returned (.tuple #[.agg (prC (remP key name lv fst p i ch).1.1).toArray, .int .i64 ((remP key name lv fst p i ch).1.2 : Int)]) ∧ ChTo w w' c g sp bo key name Ds Dc Dg (remP key name lv fst p i ch).2
set_option maxRecDepth 100000 in
set_option maxHeartbeats 32000000 in
theorem rem_step (key name : List UInt8) (c g sp bo lv : Nat) (hlv : lv ≤ 5) (ih : ∀ m, lv = m + 1 → RemAt key name c g sp bo m) : RemAt key name c g sp bo lv := by
 intro fst p i ch w Ds Dc Dg h hp hnum hroom hi1 hi2 hsm
 refine calls_at (n := 80) Tryd.func114 rfl rfl (by simp) ?_
 have hl33 := prC_length hp
 have hrp := roomN_pos lv
 (refine At_seq (At_region ?_))
 refine AtR_go rfl (AtG_box rfl fun b5 w1 hb5 e1 => ?_)
 have B5 : Blk w1 b5 38 (0, 0) (prC p) := e1.blk
 have k1 : Kp No w w1 := e1.kp (.inr (by omega))
 clear e1
 refine AtR_go rfl (AtG_box rfl fun b6 w2 hb6 e2 => ?_)
 have B6 : Blk w2 b6 153 (0, 0) (spC lv fst) := e2.blk
 have k2 : Kp No w1 w2 := e2.kp (.inr (by omega))
 have z1 := k1.size
 clear e2
 refine AtR_go rfl (AtG_alloc fun b8 w3 hb8 e3 => ?_)
 have B8 : Blk w3 b8 38 (0, 0) z38 := e3.blk
 have k3 : Kp No w2 w3 := e3.kp (.inr (by omega))
 have z2 := k2.size
 clear e3
 have K := (k1.trans k2).trans k3
 have z3 := K.size
 have l5 := B5.lt
 have l6 := B6.lt
 have l8 := B8.lt
 have hno : ∀ j, w.heap.size ≤ j → ¬ Ds j ∧ ¬ Dc j := fun j hj => ⟨fun hd => by have := h.stt.dlt j hd; omega, fun hd => by have := h.clt j hd; omega⟩
 have hnog : ∀ j, w.heap.size ≤ j → ¬ Dg j := fun j hj hd => by have := h.glt j hd; omega
 replace B5 := B5.kp (k2.trans k3) fun h => h
 replace B6 := B6.kp k3 fun h => h
 have fin : ∀ {w5 w6 : World} {Ds5 Dc5 : Nat → Prop} {ch5 : Ch} {q : Pr}, ChAt w5 c g sp bo key name ch5 Ds5 Dc5 Dg → (¬ Ds5 b8 ∧ ¬ Dc5 b8) → (∀ j, Ds5 j ∨ Dc5 j → Ds j ∨ Dc j ∨ w.heap.size ≤ j) → Kp (fun j => Ds j ∨ Dc j) w w5 → Eff w5 w6 b8 (.cells (prC q).toArray 38 (0, 0)) → ChTo w w6 c g sp bo key name Ds Dc Dg ch5 := fun {w5 w6 Ds5 Dc5 ch5 q} h5 hn hD k e => by
  have k6 : Kp (fun j => j = b8) w5 w6 := e.kp (.inl rfl)
  exact ⟨Ds5, Dc5, h5.kp k6 (by rintro j rfl; exact ⟨hn.1, hn.2, hnog _ (by omega)⟩), hD, k.trans' k6 (by rintro j rfl; right; omega)⟩
 have B6i : Blk w3 b6 153 (0, 0) [.int .i64 (lv : Int), .int .i64 (fst : Int)] := B6
 have B5i : Blk w3 b5 38 (0, 0) (.int .i64 (p.sec : Int) :: ints .u8 (bs8 p.mac)) := B5
 have hDD : ∀ j, Ds j ∨ Dc j → Ds j ∨ Dc j ∨ w.heap.size ≤ j := fun j hj => hj.elim .inl fun h => .inr (.inl h)
 have hKD := K.mono (fun _ h => h.elim : ∀ j, No j → (fun j => Ds j ∨ Dc j) j)
 have h4 := h.kpn K
 by_cases h0 : p.sec = 0
 ·have he : remP key name lv fst p i ch = ((p, 0), ch) := by cases lv <;> (rw [remP]; exact if_pos h0)
  rw [he]
  (refine s_as ?_; refine AtR_nil (At_seq (At_block (At_seq (At_region ?_)))); refine s_fa ?_; refine s_ld ?_; refine s_eql ?_; refine s_as ?_; refine AtR_nil ?_; refine At_cond_t rfl ?_; refine At_seq (At_region ?_))
  refine s_val (x_load_all rfl B5 hl33) ?_
  refine AtR_go rfl (G_skip (r_store_all (s := 33) (vs := prC p) rfl rfl B8 hl33 rfl (prC_one _)) fun w6 e6 => ?_)
  (refine s_as ?_; refine AtR_nil ?_)
  exact At_ret_cell2 (s := 33) Tryd.func114 rfl rfl e6.blk hl33 rfl ⟨rfl, fin h4 (hno b8 (by omega)) hDD hKD e6⟩
 have h0' := h0
 cases lv with
 | zero =>
  have he : remP key name 0 fst p i ch = ((Pr.zero, 0), ch.lose p) := by rw [remP, if_neg h0]
  rw [he]
  (refine s_as ?_; refine AtR_nil (At_seq (At_block (At_seq (At_region ?_)))); refine s_fa ?_; refine s_ld ?_; refine s_eql ?_; refine s_as ?_; refine AtR_nil ?_; refine At_cond_f rfl ?_; refine At_seq (At_region ?_); refine s_fa ?_; refine s_ld ?_; refine s_eql ?_; refine s_as ?_; refine AtR_nil ?_; refine At_cond_t rfl ?_; refine At_seq (At_region ?_); refine s_mv ?_)
  refine s_val (x_load_all rfl B5 hl33) ?_
  refine s_call x_call (lose_calls c g sp bo key name ch p _ h4 hp (hsm.mono (by omega))) ?_
  rintro _ w5 ⟨rfl, Ds5, Dc5, h5, hD5, k5⟩
  refine ⟨_, rfl, ?_⟩
  have o8 : ¬ Ds b8 ∧ ¬ Dc b8 := hno b8 (by omega)
  have B8b := B8.kp k5 (out_kp o8)
  (refine AtR_nil (At_seq ?_); refine At_region ?_)
  refine s_val (x_build rfl built38_nil) ?_
  skip
  refine AtR_go rfl (G_skip (r_store_all (s := 33) (vs := prC Pr.zero) rfl rfl B8b rfl rfl (prC_one _)) fun w6 e6 => ?_)
  (refine s_as ?_; refine AtR_nil ?_)
  exact At_ret_cell2 (s := 33) Tryd.func114 rfl rfl e6.blk rfl rfl ⟨rfl, fin h5 (out_of hD5 o8 l8) (chain_D hD5 hDD z3) (chain_K hKD k5 hDD) e6⟩
 | succ lv =>
  obtain ⟨hk14, hkf1, hkf2⟩ := hold_lt hi1 hi2
  have hr1 := roomN_le (d := lv) (by omega)
  rw [remP, if_neg h0]
  obtain ⟨k, hk⟩ : ∃ k, k = (i - fst) / roomN lv := ⟨_, rfl⟩
  rw [← hk] at hk14 hkf1 hkf2 ⊢
  obtain ⟨ps, cd, hcase, hw, h14⟩ : ∃ ps cd, ((ptsP key name ch.st p (lv + 1) fst = some ps ∧ cd = 0) ∨ (ptsP key name ch.st p (lv + 1) fst = none ∧ ps = zeros ∧ cd = 13)) ∧ (∀ q ∈ ps, q.wf) ∧ ps.length = 14 := by
   cases hpt : ptsP key name ch.st p (lv + 1) fst with
   | some ps => exact ⟨ps, 0, .inl ⟨rfl, rfl⟩, ptsP_wf h4.stt.all hpt⟩
   | none => exact ⟨zeros, 13, .inr ⟨rfl, rfl, rfl⟩, zeros_wf, rfl⟩
  have h462 := psC_len hw h14
  generalize hw4 : w3 = w4 at *
  have hcall : ∀ {wx : World}, Kp No w4 wx → Calls Tryd.prog 79 #[.pointer (some ⟨g, 0, none⟩), .agg (prC p).toArray, .agg (spC (lv + 1) fst).toArray] wx fun e w' => Kp No wx w' ∧ e = .returned (.tuple #[.agg (psC ps).toArray, .int .i64 (cd : Int)]) := fun {wx} kx => by
   refine (pointers_calls ch.st g sp bo key name p (lv + 1) fst wx (h4.gr.kpn kx) (h4.stt.kpn kx) hp (by omega) (by omega)).mono fun e w' hh => ⟨hh.1, ?_⟩
   rcases hcase with ⟨h1, rfl⟩ | ⟨h1, rfl, rfl⟩
   ·rw [h1] at hh; exact hh.2
   ·rw [h1] at hh; exact hh.2
  obtain ⟨av, cv, ag, cg, hR4, _⟩ := h4.row
  have hz157 : z157.length = 462 := by rw [← psC_zeros]; exact psC_len zeros_wf rfl
  (refine s_as ?_; refine AtR_nil (At_seq (At_block (At_seq (At_region ?_)))); refine s_fa ?_; refine s_ld ?_; refine s_eql ?_; refine s_as ?_; refine AtR_nil ?_; refine At_cond_f rfl ?_; refine At_seq (At_region ?_); refine s_fa ?_; refine s_ld ?_; refine s_eql ?_; refine s_as ?_; refine AtR_nil ?_; refine At_cond_f rfl ?_; refine At_skip (At_inBlock ?_); refine At_seq ?_)
  refine At_meet (σ := Nat) (fun b10 => [(0, .pointer (some ⟨c, 0, none⟩)), (3, .int .i64 (i : Int)), (5, .pointer (some ⟨b5, 0, none⟩)), (6, .pointer (some ⟨b6, 0, none⟩)), (8, .pointer (some ⟨b8, 0, none⟩)), (10, .pointer (some ⟨b10, 0, none⟩)), (11, .int .i64 (cd : Int))])
   (fun b10 w' => Blk w' b10 157 (0, 0) (psC ps) ∧ w4.heap.size ≤ b10 ∧ Kp No w4 w') ?_ ?_
  rotate_left
  ·intro join
   have kd := Kp.drew (S := No) (w := w4)
   let S : World → Prop := fun w' => Blk w' c 149 (0, 0) [.pointer (some ⟨g, 0, none⟩), .slice av ch.saved.length cv, .slice ag ch.gone.length cg] ∧ Blk w' b5 38 (0, 0) (prC p) ∧ Blk w' b6 153 (0, 0) (spC (lv + 1) fst)
   have hSk : ∀ {w w'}, S w → Kp No w w' → S w' := fun h k => ⟨h.1.kp k fun h => h, h.2.1.kp k fun h => h, h.2.2.kp k fun h => h⟩
   have hS : S w4.drew := hSk (w := w4) ⟨hR4, B5, B6⟩ kd
   have hcl := h4.clt c h4.dc
   refine At_draw S rfl ?_
   (apply AtH_take 0 rfl (by decide +kernel) (by exact rfl); (focus (intro wx hx; skip; exact x_move (by conv => lhs; whnf))); (focus (exact hS)))
   (apply AtH_take 1 rfl (by decide +kernel) (by exact rfl); (focus (intro wx hx; skip; exact x_nilCheck rfl)); (focus (exact hS)))
   (apply AtH_take 2 rfl (by decide +kernel) (by exact rfl); (focus (intro wx hx; skip; exact x_fieldAddrN rfl (by first | exact Nat.zero_add _ | exact Nat.add_zero _ | (simp only [Nat.reduceAdd] <;> rfl) | exact rfl))); (focus (exact hS)))
   refine AtH_take 3 rfl (by decide +kernel) (by exact rfl) (fun wx hx => x_load1 rfl hx.1 rfl) hS ?_
   refine AtH_take 4 rfl (by decide +kernel) (by exact rfl) (fun wx hx => x_load_all rfl hx.2.1 hl33) hS ?_
   refine AtH_take 5 rfl (by decide +kernel) (by exact rfl) (fun wx hx => x_load_all rfl hx.2.2 rfl) hS ?_
   refine AtH_pairX 10 6 rfl rfl (by first | exact .inl (by decide +kernel) | exact .inr (by decide +kernel)) (by exact rfl) (by exact rfl) r_alloc x_call (hcall kd) ?_ ?_
   ·rintro _ w5 ⟨b10, rfl, hb10, e5⟩
    have B10 : Blk w5 b10 157 (0, 0) z157 := e5.blk
    have k5 : Kp No w4.drew w5 := e5.kp (.inr (by omega))
    have zd := kd.size
    have hS5 := hSk hS k5
    refine ⟨hS5, ?_⟩
    clear hS
    have hS := hS5
    refine AtH_call 6 rfl (by decide +kernel) (by exact rfl) x_call  (hcall (kd.trans k5)) ?_
    rintro _ w6 ⟨k6, rfl⟩
    have hS6 := hSk hS k6
    refine ⟨_, rfl, hS6, ?_⟩
    clear hS
    have hS := hS6
    (apply AtH_take 7 rfl (by decide +kernel) (by exact rfl); (focus (intro wx hx; skip; exact x_move (by conv => lhs; whnf))); (focus (exact hS)))
    (apply AtH_take 8 rfl (by decide +kernel) (by exact rfl); (focus (intro wx hx; skip; exact x_extract rfl rfl)); (focus (exact hS)))
    (apply AtH_take 9 rfl (by decide +kernel) (by exact rfl); (focus (intro wx hx; skip; exact x_extract rfl rfl)); (focus (exact hS)))
    refine H_skip 11 rfl (by decide +kernel) (by exact rfl) (r_store_all (s := 462) (vs := psC ps) rfl rfl (B10.kp k6 fun h => h) h462 hz157 (psC_one _)) ?_
    intro w7 e7
    have k7 : Kp (fun j => j = b10) w6 w7 := e7.kp (.inl rfl)
    have hS7 : S w7 := ⟨hS.1.kp k7 (by omega), hS.2.1.kp k7 (by omega), hS.2.2.kp k7 (by omega)⟩
    refine ⟨hS7, ?_⟩
    clear hS
    have hS := hS7
    (apply AtH_take 12 rfl (by decide +kernel) (by exact rfl); (focus (intro wx hx; skip; exact x_assign (by conv => lhs; whnf))); (focus (exact hS)))
    refine AtH_done (by decide +kernel) ?_
    exact join b10 _ _ ⟨rfl, rfl, rfl, rfl, rfl, rfl, rfl, trivial⟩ ⟨e7.blk, by omega, ((kd.trans k5).trans k6).trans' k7 (by rintro j rfl; right; omega)⟩
   ·rintro _ w5 ⟨k5, rfl⟩
    have hS5 := hSk hS k5
    refine ⟨_, rfl, hS5, ?_⟩
    clear hS
    have hS := hS5
    (apply AtH_take 7 rfl (by decide +kernel) (by exact rfl); (focus (intro wx hx; skip; exact x_move (by conv => lhs; whnf))); (focus (exact hS)))
    (apply AtH_take 8 rfl (by decide +kernel) (by exact rfl); (focus (intro wx hx; skip; exact x_extract rfl rfl)); (focus (exact hS)))
    (apply AtH_take 9 rfl (by decide +kernel) (by exact rfl); (focus (intro wx hx; skip; exact x_extract rfl rfl)); (focus (exact hS)))
    refine H_val 10 rfl (by decide +kernel) (by exact rfl) r_alloc ?_
    rintro _ w6 ⟨b10, rfl, hb10, e6⟩
    have B10 : Blk w6 b10 157 (0, 0) z157 := e6.blk
    have k6 : Kp No w5 w6 := e6.kp (.inr (by omega))
    have zd := (kd.trans k5).size
    have hS6 := hSk hS k6
    refine ⟨hS6, ?_⟩
    clear hS
    have hS := hS6
    refine H_skip 11 rfl (by decide +kernel) (by exact rfl) (r_store_all (s := 462) (vs := psC ps) rfl rfl B10 h462 hz157 (psC_one _)) ?_
    intro w7 e7
    have k7 : Kp (fun j => j = b10) w6 w7 := e7.kp (.inl rfl)
    have hS7 : S w7 := ⟨hS.1.kp k7 (by omega), hS.2.1.kp k7 (by omega), hS.2.2.kp k7 (by omega)⟩
    refine ⟨hS7, ?_⟩
    clear hS
    have hS := hS7
    (apply AtH_take 12 rfl (by decide +kernel) (by exact rfl); (focus (intro wx hx; skip; exact x_assign (by conv => lhs; whnf))); (focus (exact hS)))
    refine AtH_done (by decide +kernel) ?_
    exact join b10 _ _ ⟨rfl, rfl, rfl, rfl, rfl, rfl, rfl, trivial⟩ ⟨e7.blk, by omega, ((kd.trans k5).trans k6).trans' k7 (by rintro j rfl; right; omega)⟩
  rintro b10 w5 junk2 ⟨B10, hb10, k5⟩
  have h5 := h4.kpn k5
  have B5d := B5.kp k5 fun h => h
  have B6d := B6.kp k5 fun h => h
  have B8d := B8.kp k5 fun h => h
  have K5 := hKD.trans (k5.mono (fun _ h => h.elim : ∀ j, No j → (fun j => Ds j ∨ Dc j) j))
  have z5 := k5.size
  have l10 := B10.lt
  have hst5 := h4.stt
  clear hcall hR4
  rcases hcase with ⟨hpt, rfl⟩ | ⟨hpt, rfl, rfl⟩
  rotate_left
  ·rw [hpt]
   (refine At_seq (At_seq (At_region ?_)); refine s_mv ?_; refine s_neq ?_; refine AtR_nil ?_; refine At_cond_t rfl ?_; refine At_seq (At_region ?_))
   refine s_val (x_build rfl built38_nil) ?_
   (refine s_mv ?_)
   refine AtR_go rfl (G_skip (r_store_all (s := 33) (vs := prC Pr.zero) rfl rfl B8d rfl rfl (prC_one _)) fun w6 e6 => ?_)
   (refine s_as ?_; refine AtR_nil ?_)
   exact At_ret_cell2 (s := 33) Tryd.func114 rfl rfl e6.blk rfl rfl ⟨rfl, fin h5 (hno b8 (by omega)) hDD K5 e6⟩
  rw [hpt]
  simp only
  (refine At_seq (At_seq (At_region ?_)); refine s_mv ?_; refine s_neq ?_; refine AtR_nil ?_; refine At_cond_f rfl ?_; refine At_skip (At_seq ?_); refine At_region ?_)
  refine s_val (x_load_all rfl B6d rfl) ?_
  (refine s_mv ?_)
  refine s_call x_call (holds_calls (lv + 1) lv fst i _ rfl (by omega) (by omega) hi1) ?_
  rintro _ w6 ⟨rfl, k6⟩
  refine ⟨_, rfl, ?_⟩
  rw [← hk]
  have hkl : k < ps.length := by omega
  have hgk : ps.getD k Pr.zero = ps[k] := by simp [List.getD, hkl]
  have hwk := hw ps[k] (List.getElem_mem hkl)
  have hp33 := prC_length hwk
  rw [hgk]
  have hseg : ∀ {w'}, Blk w' b10 157 (0, 0) (psC ps) → Seg w' b10 (0 + ((k : Nat) : Int).toNat * 33) (prC ps[k]) := fun hB j hj => by
   have := psC_get [] hkl hw (show j < 33 by rw [prC_length hwk] at hj; exact hj)
   rw [List.append_nil] at this
   rw [Int.toNat_natCast, Nat.zero_add, hB.cell, this]
  have hroomk : fst + k * roomN lv + roomN lv ≤ 537824 := by
   have h2 : (k + 1) * roomN lv ≤ 14 * roomN lv := Nat.mul_le_mul_right _ (by omega)
   rw [Nat.add_mul, Nat.one_mul] at h2
   rw [roomN_succ] at hroom
   omega
  obtain ⟨f1, f2, f3⟩ := rem_fine (key := key) (name := name) lv (fst + k * roomN lv) ps[k] i ch 2 hwk hnum (hsm.mono (by omega))
  have ihc : ∀ {wx : World}, Kp No w6 wx → Calls Tryd.prog 114 #[.pointer (some ⟨c, 0, none⟩), .agg (prC ps[k]).toArray, .agg (spC lv (fst + k * roomN lv)).toArray, .int .i64 (i : Int)] wx fun e w' =>
    e = .returned (.tuple #[.agg (prC (remP key name lv (fst + k * roomN lv) ps[k] i ch).1.1).toArray, .int .i64 ((remP key name lv (fst + k * roomN lv) ps[k] i ch).1.2 : Int)]) ∧ ChTo wx w' c g sp bo key name Ds Dc Dg (remP key name lv (fst + k * roomN lv) ps[k] i ch).2 := fun {wx} kx =>
   ih lv rfl (fst + k * roomN lv) ps[k] i ch wx Ds Dc Dg ((h5.kpn k6).kpn kx) hwk hnum hroomk hkf1 hkf2 (hsm.mono (by omega))
  generalize remP key name lv (fst + k * roomN lv) ps[k] i ch = R at *
  obtain ⟨⟨q, cq⟩, ch2⟩ := R
  simp only at f1 f2 f3 ihc ⊢
  have hq33 := prC_length f2
  have h6 := h5.kpn k6
  have B5e := B5d.kp k6 fun h => h
  have B6e := B6d.kp k6 fun h => h
  have B8e := B8d.kp k6 fun h => h
  have B10e := B10.kp k6 fun h => h
  have z6 := k6.size
  have K6 := K5.trans (k6.mono (fun _ h => h.elim : ∀ j, No j → (fun j => Ds j ∨ Dc j) j))
  have n5 := hno b5 (by omega)
  have n6 := hno b6 (by omega)
  have n8 := hno b8 (by omega)
  have n10 := hno b10 (by omega)
  clear B5 B6 B8 B10 B5d B6d B8d B5i B6i h4 h5
  (refine s_as ?_; refine AtR_nil (At_seq ?_))
  refine At_meet (σ := Nat) (fun b13 => [(0, .pointer (some ⟨c, 0, none⟩)), (5, .pointer (some ⟨b5, 0, none⟩)), (6, .pointer (some ⟨b6, 0, none⟩)), (8, .pointer (some ⟨b8, 0, none⟩)), (10, .pointer (some ⟨b10, 0, none⟩)), (11, .int .i64 (cq : Int)), (12, .int .i64 (k : Int)), (13, .pointer (some ⟨b13, 0, none⟩))])
   (fun b13 w' => Blk w' b13 38 (0, 0) (prC q) ∧ Blk w' b5 38 (0, 0) (prC p) ∧ Blk w' b6 153 (0, 0) (spC (lv + 1) fst) ∧ Blk w' b8 38 (0, 0) z38 ∧ Blk w' b10 157 (0, 0) (psC ps) ∧ w6.heap.size ≤ b13 ∧
    ∃ Ds8 Dc8, ChAt w' c g sp bo key name ch2 Ds8 Dc8 Dg ∧ (∀ j, Ds8 j ∨ Dc8 j → (Ds j ∨ Dc j ∨ w6.heap.size ≤ j) ∧ j ≠ b13) ∧ Kp (fun j => Ds j ∨ Dc j) w6 w') ?_ ?_
  rotate_left
  ·intro join1
   have kd := Kp.drew (S := No) (w := w6)
   let S : World → Prop := fun w' => Blk w' b10 157 (0, 0) (psC ps) ∧ Blk w' b6 153 (0, 0) (spC (lv + 1) fst)
   have hSk : ∀ {S0 : Nat → Prop} {w w'}, S w → Kp S0 w w' → ¬ S0 b10 → ¬ S0 b6 → S w' := fun h k h1 h2 => ⟨h.1.kp k h1, h.2.kp k h2⟩
   have hS : S w6.drew := hSk (w := w6) ⟨B10e, B6e⟩ kd id id
   have zd := kd.size
   have l5e := B5e.lt
   have l6e := B6e.lt
   have l8e := B8e.lt
   have l10e := B10e.lt
   have fin1 : ∀ {wa wb : World} {b13 : Nat} {Ds8 Dc8 : Nat → Prop}, ChAt wa c g sp bo key name ch2 Ds8 Dc8 Dg → (∀ j, Ds8 j ∨ Dc8 j → (Ds j ∨ Dc j ∨ w6.heap.size ≤ j) ∧ j ≠ b13) → w6.heap.size ≤ b13 → Kp (fun j => Ds j ∨ Dc j) w6 wa → Eff wa wb b13 (.cells (prC q).toArray 38 (0, 0)) →
     Blk wb b13 38 (0, 0) (prC q) ∧ Blk wb b5 38 (0, 0) (prC p) ∧ Blk wb b6 153 (0, 0) (spC (lv + 1) fst) ∧ Blk wb b8 38 (0, 0) z38 ∧ Blk wb b10 157 (0, 0) (psC ps) ∧ w6.heap.size ≤ b13 ∧
      ∃ Ds8 Dc8, ChAt wb c g sp bo key name ch2 Ds8 Dc8 Dg ∧ (∀ j, Ds8 j ∨ Dc8 j → (Ds j ∨ Dc j ∨ w6.heap.size ≤ j) ∧ j ≠ b13) ∧ Kp (fun j => Ds j ∨ Dc j) w6 wb := by
    intro wa wb b13 Ds8 Dc8 ha hD hb ka e
    have kb : Kp (fun j => j = b13) wa wb := e.kp (.inl rfl)
    exact ⟨e.blk, (B5e.kp ka (out_kp n5)).kp kb (by omega), (B6e.kp ka (out_kp n6)).kp kb (by omega), (B8e.kp ka (out_kp n8)).kp kb (by omega), (B10e.kp ka (out_kp n10)).kp kb (by omega), hb, Ds8, Dc8,
     ha.kp kb (by rintro j rfl; exact ⟨fun hd => (hD _ (.inl hd)).2 rfl, fun hd => (hD _ (.inr hd)).2 rfl, hnog _ (by omega)⟩), hD, ka.trans' kb (by rintro j rfl; right; omega)⟩
   refine At_draw S rfl ?_
   (apply AtH_take 0 rfl (by decide +kernel) (by exact rfl); (focus (intro wx hx; skip; exact x_move (by conv => lhs; whnf))); (focus (exact hS)))
   (apply AtH_take 1 rfl (by decide +kernel) (by exact rfl); (focus (intro wx hx; skip; exact x_move (by conv => lhs; whnf))); (focus (exact hS)))
   (apply AtH_take 5 rfl (by decide +kernel) (by exact rfl); (focus (intro wx hx; skip; exact x_move (by conv => lhs; whnf))); (focus (exact hS)))
   (apply AtH_take 7 rfl (by decide +kernel) (by exact rfl); (focus (intro wx hx; skip; exact x_move (by conv => lhs; whnf))); (focus (exact hS)))
   refine AtH_take 2 rfl (by decide +kernel) (by exact rfl) (fun wx hx => x_indexAddr_arr rfl rfl (by omega) (by omega)) hS ?_
   refine AtH_take 4 rfl (by decide +kernel) (by exact rfl) (fun wx hx => x_load_all rfl hx.2 rfl) hS ?_
   refine AtH_take 3 rfl (by decide +kernel) (by exact rfl) (fun wx hx => x_load_segN rfl (hseg hx.1) hp33) hS ?_
   refine AtH_pairX 12 6 rfl rfl (by first | exact .inl (by decide +kernel) | exact .inr (by decide +kernel)) (by exact rfl) (by exact rfl) r_alloc x_call (child_calls (lv + 1) lv fst k _ rfl (by omega) hk14 hroom) ?_ ?_
   ·rintro _ w7 ⟨b13, rfl, hb13, e7⟩
    have B13 : Blk w7 b13 38 (0, 0) z38 := e7.blk
    have k7 : Kp No w6.drew w7 := e7.kp (.inr (by omega))
    have hS7 := hSk hS k7 id id
    refine ⟨hS7, ?_⟩
    clear hS e7
    have hS := hS7
    refine AtH_call 6 rfl (by decide +kernel) (by exact rfl) x_call  (child_calls (lv + 1) lv fst k _ rfl (by omega) hk14 hroom) ?_
    rintro _ w8 ⟨rfl, k8⟩
    have hS8 := hSk hS k8 id id
    refine ⟨_, rfl, hS8, ?_⟩
    clear hS
    have hS := hS8
    have K8 := (kd.trans k7).trans k8
    have z7 := k7.size
    have z8 := k8.size
    have l13 := B13.lt
    refine AtH_call 8 rfl (by decide +kernel) (by exact rfl) x_call  (ihc K8) ?_
    rintro _ w9 ⟨rfl, Ds8, Dc8, h9, hD9, k9⟩
    have hS9 := hSk hS k9 (out_kp n10) (out_kp n6)
    refine ⟨_, rfl, hS9, ?_⟩
    clear hS
    have hS := hS9
    have n13 := hno b13 (by omega)
    (apply AtH_take 9 rfl (by decide +kernel) (by exact rfl); (focus (intro wx hx; skip; exact x_move (by conv => lhs; whnf))); (focus (exact hS)))
    (apply AtH_take 10 rfl (by decide +kernel) (by exact rfl); (focus (intro wx hx; skip; exact x_extract rfl rfl)); (focus (exact hS)))
    (apply AtH_take 11 rfl (by decide +kernel) (by exact rfl); (focus (intro wx hx; skip; exact x_extract rfl rfl)); (focus (exact hS)))
    refine H_skip 13 rfl (by decide +kernel) (by exact rfl) (r_store_all (s := 33) (vs := prC q) rfl rfl ((B13.kp k8 fun h => h).kp k9 (out_kp n13)) hq33 rfl (prC_one _)) ?_
    intro wb eb
    have hSb := hSk hS (eb.kp (S := fun j => j = b13) (.inl rfl)) (by omega) (by omega)
    refine ⟨hSb, ?_⟩
    clear hS
    have hS := hSb
    (apply AtH_take 14 rfl (by decide +kernel) (by exact rfl); (focus (intro wx hx; skip; exact x_assign (by conv => lhs; whnf))); (focus (exact hS)))
    refine AtH_done (by decide +kernel) ?_
    exact join1 b13 _ _ ⟨rfl, rfl, rfl, rfl, rfl, rfl, rfl, rfl, trivial⟩ (fin1 h9 (fun j hj => ⟨(hD9 j hj).imp id fun h => h.imp id fun h => by omega, fun e => by
     subst e
     rcases hD9 _ hj with h | h | h
     ·exact n13.1 h
     ·exact n13.2 h
     ·omega⟩) (by omega) ((K8.mono fun _ h => h.elim).trans k9) eb)
   ·rintro _ w7 ⟨rfl, k7⟩
    have hS7 := hSk hS k7 id id
    refine ⟨_, rfl, hS7, ?_⟩
    clear hS
    have hS := hS7
    have z7 := k7.size
    refine AtH_pairX 12 8 rfl rfl (by first | exact .inl (by decide +kernel) | exact .inr (by decide +kernel)) (by exact rfl) (by exact rfl) r_alloc x_call (ihc (kd.trans k7)) ?_ ?_
    ·rintro _ w8 ⟨b13, rfl, hb13, e8⟩
     have B13 : Blk w8 b13 38 (0, 0) z38 := e8.blk
     have k8 : Kp No w7 w8 := e8.kp (.inr (by omega))
     have hS8 := hSk hS k8 id id
     refine ⟨hS8, ?_⟩
     clear hS e8
     have hS := hS8
     have K8 := (kd.trans k7).trans k8
     have z8 := k8.size
     have l13 := B13.lt
     refine AtH_call 8 rfl (by decide +kernel) (by exact rfl) x_call  (ihc K8) ?_
     rintro _ w9 ⟨rfl, Ds8, Dc8, h9, hD9, k9⟩
     have hS9 := hSk hS k9 (out_kp n10) (out_kp n6)
     refine ⟨_, rfl, hS9, ?_⟩
     clear hS
     have hS := hS9
     have n13 := hno b13 (by omega)
     (apply AtH_take 9 rfl (by decide +kernel) (by exact rfl); (focus (intro wx hx; skip; exact x_move (by conv => lhs; whnf))); (focus (exact hS)))
     (apply AtH_take 10 rfl (by decide +kernel) (by exact rfl); (focus (intro wx hx; skip; exact x_extract rfl rfl)); (focus (exact hS)))
     (apply AtH_take 11 rfl (by decide +kernel) (by exact rfl); (focus (intro wx hx; skip; exact x_extract rfl rfl)); (focus (exact hS)))
     refine H_skip 13 rfl (by decide +kernel) (by exact rfl) (r_store_all (s := 33) (vs := prC q) rfl rfl (B13.kp k9 (out_kp n13)) hq33 rfl (prC_one _)) ?_
     intro wb eb
     have hSb := hSk hS (eb.kp (S := fun j => j = b13) (.inl rfl)) (by omega) (by omega)
     refine ⟨hSb, ?_⟩
     clear hS
     have hS := hSb
     (apply AtH_take 14 rfl (by decide +kernel) (by exact rfl); (focus (intro wx hx; skip; exact x_assign (by conv => lhs; whnf))); (focus (exact hS)))
     refine AtH_done (by decide +kernel) ?_
     exact join1 b13 _ _ ⟨rfl, rfl, rfl, rfl, rfl, rfl, rfl, rfl, trivial⟩ (fin1 h9 (fun j hj => ⟨(hD9 j hj).imp id fun h => h.imp id fun h => by omega, fun e => by
      subst e
      rcases hD9 _ hj with h | h | h
      ·exact n13.1 h
      ·exact n13.2 h
      ·omega⟩) (by omega) ((K8.mono fun _ h => h.elim).trans k9) eb)
    ·rintro _ w8 ⟨rfl, Ds8, Dc8, h8, hD8, k8⟩
     have hS8 := hSk hS k8 (out_kp n10) (out_kp n6)
     refine ⟨_, rfl, hS8, ?_⟩
     clear hS
     have hS := hS8
     have z8 := k8.size
     (apply AtH_take 9 rfl (by decide +kernel) (by exact rfl); (focus (intro wx hx; skip; exact x_move (by conv => lhs; whnf))); (focus (exact hS)))
     (apply AtH_take 10 rfl (by decide +kernel) (by exact rfl); (focus (intro wx hx; skip; exact x_extract rfl rfl)); (focus (exact hS)))
     (apply AtH_take 11 rfl (by decide +kernel) (by exact rfl); (focus (intro wx hx; skip; exact x_extract rfl rfl)); (focus (exact hS)))
     refine H_val 12 rfl (by decide +kernel) (by exact rfl) r_alloc ?_
     rintro _ w9 ⟨b13, rfl, hb13, e9⟩
     have B13 : Blk w9 b13 38 (0, 0) z38 := e9.blk
     have k9 : Kp No w8 w9 := e9.kp (.inr (by omega))
     have hS9 := hSk hS k9 id id
     refine ⟨hS9, ?_⟩
     clear hS e9
     have hS := hS9
     refine H_skip 13 rfl (by decide +kernel) (by exact rfl) (r_store_all (s := 33) (vs := prC q) rfl rfl B13 hq33 rfl (prC_one _)) ?_
     intro wb eb
     have hSb := hSk hS (eb.kp (S := fun j => j = b13) (.inl rfl)) (by omega) (by omega)
     refine ⟨hSb, ?_⟩
     clear hS
     have hS := hSb
     (apply AtH_take 14 rfl (by decide +kernel) (by exact rfl); (focus (intro wx hx; skip; exact x_assign (by conv => lhs; whnf))); (focus (exact hS)))
     refine AtH_done (by decide +kernel) ?_
     have hds := h8.stt.dlt
     have hdc := h8.clt
     exact join1 b13 _ _ ⟨rfl, rfl, rfl, rfl, rfl, rfl, rfl, rfl, trivial⟩ (fin1 (h8.kpn k9) (fun j hj => ⟨(hD8 j hj).imp id fun h => h.imp id fun h => by omega, fun e => by
      subst e
      rcases hj with h | h
      ·have := hds _ h; omega
      ·have := hdc _ h; omega⟩) (by omega) (((kd.trans k7).mono fun _ h => h.elim).trans (k8.trans (k9.mono fun _ h => h.elim))) eb)
  clear ihc B5e B6e B8e B10e h6
  rintro b13 w8 junk3 ⟨B13, B5, B6, B8, B10, hb13, Ds8, Dc8, h8, hD8, k8⟩
  have hD8w : ∀ j, Ds8 j ∨ Dc8 j → Ds j ∨ Dc j ∨ w.heap.size ≤ j := fun j hj => (hD8 j hj).1.imp id fun h => h.imp id fun h => by omega
  have K8 := K6.trans k8
  have z8 := K8.size
  have ld : ∀ {b : Nat}, b < w6.heap.size → ¬ Ds b ∧ ¬ Dc b → ¬ Ds8 b ∧ ¬ Dc8 b := fun {b} hb hn => ⟨fun hd => (hD8 _ (.inl hd)).1.elim hn.1 fun h => h.elim hn.2 fun h => by omega, fun hd => (hD8 _ (.inr hd)).1.elim hn.1 fun h => h.elim hn.2 fun h => by omega⟩
  have n8' := ld (by omega) n8
  by_cases hcq : cq = 0
  rotate_left
  ·simp only [if_neg hcq]
   (refine At_seq (At_block (At_seq (At_region ?_))); refine s_mv ?_; refine s_neq ?_; refine s_as ?_; refine AtR_nil ?_; refine At_cond_t rfl ?_; refine At_seq (At_region ?_))
   refine s_val (x_build rfl built38_nil) ?_
   (refine s_mv ?_)
   refine AtR_go rfl (G_skip (r_store_all (s := 33) (vs := prC Pr.zero) rfl rfl B8 rfl rfl (prC_one _)) fun wz ez => ?_)
   (refine s_as ?_; refine AtR_nil ?_)
   exact At_ret_cell2 (s := 33) Tryd.func114 rfl rfl ez.blk rfl rfl ⟨rfl, fin h8 n8' hD8w K8 ez⟩
  subst hcq
  simp only [if_true]
  have hsegI : ∀ {w'}, Blk w' b10 157 (0, 0) (psC ps) → Seg w' b10 (0 + ((k : Nat) : Int).toNat * 33) (mkI K38 (prI ps[k])) := fun hB => by rw [← prC_mkI hwk.mac]; exact hseg hB
  have lq := prI_length f2.mac
  have lk := prI_length hwk.mac
  have hl38 : ∀ {x : Pr}, x.wf → (mkI K38 (prI x)).length = 33 := fun hx => by rw [← prC_mkI hx.mac]; exact prC_length hx
  (refine At_seq (At_block (At_seq (At_region ?_))); refine s_mv ?_; refine s_neq ?_; refine s_as ?_; refine AtR_nil ?_; refine At_cond_f rfl ?_; refine At_seq ?_)
  have kd := Kp.drew (S := No) (w := w8)
  let S : World → Prop := fun w' => Blk w' b13 38 (0, 0) (mkI K38 (prI q)) ∧ Blk w' b10 157 (0, 0) (psC ps)
  have hS : S w8.drew := ⟨by rw [← prC_mkI f2.mac]; exact B13.kp kd fun h => h, B10.kp kd fun h => h⟩
  refine At_draw S rfl ?_
  (apply AtH_take 1 rfl (by decide +kernel) (by exact rfl); (focus (intro wx hx; skip; exact x_move (by conv => lhs; whnf))); (focus (exact hS)))
  refine AtH_take 0 rfl (by decide +kernel) (by exact rfl) (fun wx hx => x_load_all rfl hx.1 (hl38 f2)) hS ?_
  refine AtH_take 2 rfl (by decide +kernel) (by exact rfl) (fun wx hx => x_indexAddr_arr rfl rfl (by omega) (by omega)) hS ?_
  refine AtH_take 3 rfl (by decide +kernel) (by exact rfl) (fun wx hx => x_load_segN rfl (hsegI hx.2) (hl38 hwk)) hS ?_
  refine AtH_take 4 rfl (by decide +kernel) (by exact rfl) (fun wx hx => x_eql_flat rfl rfl lq.symm lk.symm) hS ?_
  (apply AtH_take 5 rfl (by decide +kernel) (by exact rfl); (focus (intro wx hx; skip; exact x_assign (by conv => lhs; whnf))); (focus (exact hS)))
  refine AtH_done (by decide +kernel) ?_
  have hd8 := h8.kpn kd
  have B5x := B5.kp kd fun h => h
  have B6x := B6.kp kd fun h => h
  have B8x := B8.kp kd fun h => h
  have B10x := B10.kp kd fun h => h
  have B13x := B13.kp kd fun h => h
  have Kx := K8.trans (kd.mono (fun _ h => h.elim : ∀ j, No j → (fun j => Ds j ∨ Dc j) j))
  have zx := Kx.size
  have lx8 := B8.lt
  have lx6 := B6.lt
  have lx10 := B10.lt
  have lx13 := B13.lt
  have n6' := ld (by omega) n6
  have n10' := ld (by omega) n10
  have n13' : ¬ Ds8 b13 ∧ ¬ Dc8 b13 := ⟨fun hd => (hD8 _ (.inl hd)).2 rfl, fun hd => (hD8 _ (.inr hd)).2 rfl⟩
  have n5' := ld (by omega) n5
  by_cases heq : q = ps[k]
  ·rw [decide_eq_true (show prI q = prI ps[k] by rw [heq]), if_pos heq]
   (refine At_cond_t rfl ?_; refine At_seq (At_region ?_))
   refine s_val (x_load_all rfl B5x hl33) ?_
   refine AtR_go rfl (G_skip (r_store_all (s := 33) (vs := prC p) rfl rfl B8x hl33 rfl (prC_one _)) fun wz ez => ?_)
   (refine s_as ?_; refine AtR_nil ?_)
   exact At_ret_cell2 (s := 33) Tryd.func114 rfl rfl ez.blk hl33 rfl ⟨rfl, fin hd8 n8' hD8w Kx ez⟩
  rw [decide_eq_false (fun h => heq (prI_inj h)), if_neg heq]
  (refine At_cond_f rfl ?_; refine At_skip (At_inBlock (At_seq (At_region ?_))); refine s_mv ?_)
  refine s_val (x_load_all rfl B13x hq33) ?_
  skip
  refine s_val (x_indexAddr_arr rfl rfl (by omega) (by omega)) ?_
  have hlay := psC_lay (ps := ps) (i := k) (q := q) hkl hw f2
  refine AtR_go rfl (G_skip (r_storeN (cs := psC ps) (vs := prC q) rfl rfl B10x hq33 (by rw [Int.toNat_natCast, h462]; omega) (prC_one _)) fun wa ea => ?_)
  rw [Int.toNat_natCast, Nat.zero_add, hlay] at ea
  have B10y : Blk wa b10 157 (0, 0) (psC (ps.set k q)) := ea.blk
  have ka : Kp (fun j => j = b10) w8.drew wa := ea.kp (.inl rfl)
  have h1013 : b10 ≠ b13 := by omega
  have ha := hd8.kp ka (by rintro j rfl; exact ⟨n10'.1, n10'.2, hnog _ (by omega)⟩)
  have B5y := B5x.kp ka (show b5 ≠ b10 by omega)
  have B6y := B6x.kp ka (show b6 ≠ b10 by omega)
  have B8y := B8x.kp ka (show b8 ≠ b10 by omega)
  have Ky : Kp (fun j => Ds j ∨ Dc j) w wa := Kx.trans' ka (by rintro j rfl; right; omega)
  have zy := ka.size
  have hwq := wf_set (i := k) hw f2
  have hq14 : (ps.set k q).length = 14 := by rw [List.length_set]; exact h14
  have hq462 := psC_len hwq hq14
  have lz8 := B8y.lt
  have lz6 := B6y.lt
  have lz10 := B10y.lt
  clear ea
  (refine AtR_nil (At_seq (At_region ?_)); refine s_mv ?_)
  refine s_val (x_load_all rfl B5y hl33) ?_
  refine s_call x_call (lose_calls c g sp bo key name ch2 p _ ha hp (f1.mono (by omega))) ?_
  rintro _ wb ⟨rfl, Ds3, Dc3, h3a, hD3, kb⟩
  refine ⟨_, rfl, ?_⟩
  have B10a := B10y.kp kb (out_kp n10')
  have B6a := B6y.kp kb (out_kp n6')
  have B8a := B8y.kp kb (out_kp n8')
  have m8 := out_of hD3 n8' lz8
  have hD3w := chain_D hD3 hD8w Ky.size
  have Ka := chain_K Ky kb hD8w
  have la8 := B8a.lt
  (refine AtR_nil (At_seq (At_region ?_)); refine s_mv ?_)
  refine s_val (x_load_all rfl B10a hq462) ?_
  refine s_val (x_load_all rfl B6a rfl) ?_
  refine s_call x_call (node_calls c g sp bo key name (ch2.lose p) (ps.set k q) (lv + 1) fst _ h3a hwq hq14 (by omega) (by omega) (Small.lose p (f1.mono (by omega)))) ?_
  have hnw := node_wf key name (lv + 1) fst (ps.set k q) (Small.lose p (f1.mono (show 1 + 1 ≤ 2 by omega)))
  generalize (ch2.lose p).node key name (lv + 1) fst (ps.set k q) = res at *
  obtain ⟨⟨q2, c2⟩, ch3⟩ := res
  rintro _ wc ⟨rfl, Ds4, Dc4, h4b, hD4, kc⟩
  refine ⟨_, rfl, ?_⟩
  simp only at hnw ⊢
  have hq2 := prC_length hnw
  have B8b := B8a.kp kc (out_kp m8)
  have za := Ka.size
  (refine s_ex ?_; refine s_ex ?_)
  refine AtR_go rfl (G_skip (r_store_all (s := 33) (vs := prC q2) rfl rfl B8b hq2 rfl (prC_one _)) fun wz ez => ?_)
  (refine s_as ?_; refine AtR_nil ?_)
  exact At_ret_cell2 (s := 33) Tryd.func114 rfl rfl ez.blk hq2 rfl ⟨rfl, fin h4b (out_of hD4 m8 la8) (chain_D hD4 hD3w za) (chain_K Ka kc hD3w) ez⟩
theorem rem_calls (key name : List UInt8) (c g sp bo : Nat) : ∀ lv, lv ≤ 5 → RemAt key name c g sp bo lv
 | 0, h => rem_step key name c g sp bo 0 h fun m hm => by omega
 | lv + 1, h => rem_step key name c g sp bo (lv + 1) h fun m hm => by
  obtain rfl : m = lv := by omega
  exact rem_calls key name c g sp bo m (by omega)
end Go.Proofs.YtfngacepjcdlnaaDoor
namespace Go.Proofs.YtfngacepjcdlnaaDoor
open Go Go.Kx Go.Kr Go.Mt
set_option maxRecDepth 100000 in
set_option maxHeartbeats 32000000 in
theorem turn_calls (c g sp bo : Nat) (key name : List UInt8) (r : Pr) (d i : Nat) (b : List UInt8) (a : Option Addr) (cap : Nat) (ch : Ch) (w : World) {Ds Dc Dg Db : Nat → Prop} (h : ChAt w c g sp bo key name ch Ds Dc Dg) (hr : r.wf) (hd : d ≤ 5) (hnum : Nums ch) (hi : i < roomN 5) (hb : b = [] ∨ b.length = 512)
  (hs : SlE w .u8 a b.length cap (bs8 b) Db) (hdb : ∀ j, Db j → (¬ Ds j ∧ ¬ Dc j) ∧ j < w.heap.size) (hsm : Small ch 24) :
  Calls Tryd.prog 97 #[.pointer (some ⟨c, 0, none⟩), .agg (trC r (d : Int)).toArray, .agg #[.int .i64 (i : Int), .slice a b.length cap]] w fun e w' =>
   e = .returned (.tuple #[.agg (trC (turnP key name r d i b ch).1.1 ((turnP key name r d i b ch).1.2.1 : Int)).toArray, .int .i64 ((turnP key name r d i b ch).1.2.2 : Int)]) ∧ ChTo w w' c g sp bo key name Ds Dc Dg (turnP key name r d i b ch).2 := by
 refine calls_at (n := 61) Tryd.func97 rfl rfl (by simp) ?_
 have hl34 := trC_length hr (d : Int)
 have h5 : roomN 5 = 537824 := rfl
 have hrl := roomN_le hd
 have hT0 := turnP_fine (key := key) (name := name) (i := i) (m := 0) (b := b) hr hd hnum hsm hi hb
 (refine At_seq (At_region ?_))
 refine AtR_go rfl (AtG_box rfl fun b4 w1 hb4 e1 => ?_)
 have B4 : Blk w1 b4 40 (0, 0) (trC r (d : Int)) := e1.blk
 have k1 : Kp No w w1 := e1.kp (.inr (by omega))
 clear e1
 refine AtR_go rfl (AtG_box rfl fun b5 w2 hb5 e2 => ?_)
 have B5 : Blk w2 b5 118 (0, 0) [.int .i64 (i : Int), .slice a b.length cap] := e2.blk
 have k2 : Kp No w1 w2 := e2.kp (.inr (by omega))
 have z1 := k1.size
 clear e2
 refine AtR_go rfl (AtG_alloc fun b6 w3 hb6 e3 => ?_)
 have B6 : Blk w3 b6 40 (0, 0) z40 := e3.blk
 have k3 : Kp No w2 w3 := e3.kp (.inr (by omega))
 have z2 := k2.size
 clear e3
 have K := (k1.trans k2).trans k3
 have z3 := K.size
 have l4 := B4.lt
 have l5 := B5.lt
 have l6 := B6.lt
 have hno : ∀ j, w.heap.size ≤ j → ¬ Ds j ∧ ¬ Dc j := fun j hj => ⟨fun hd => by have := h.stt.dlt j hd; omega, fun hd => by have := h.clt j hd; omega⟩
 have hnog : ∀ j, w.heap.size ≤ j → ¬ Dg j := fun j hj hd => by have := h.glt j hd; omega
 replace B4 := B4.kp (k2.trans k3) fun h => h
 replace B5 := B5.kp k3 fun h => h
 have h3 := h.kpn K
 have hs3 := hs.kpn K
 have hdb3 : ∀ j, Db j → (¬ Ds j ∧ ¬ Dc j) ∧ j < w3.heap.size := fun j hj => ⟨(hdb j hj).1, by have := (hdb j hj).2; omega⟩
 have hDD : ∀ j, Ds j ∨ Dc j → Ds j ∨ Dc j ∨ w.heap.size ≤ j := fun j hj => hj.elim .inl fun h => .inr (.inl h)
 have hKD := K.mono (fun _ h => h.elim : ∀ j, No j → (fun j => Ds j ∨ Dc j) j)
 have n4 := hno b4 (by omega)
 have n6 := hno b6 (by omega)
 have n5 := hno b5 (by omega)
 have h46 : b4 ≠ b6 := by omega
 have h45 : b4 ≠ b5 := by omega
 have hdeep := trC_deep hr (d : Int)
 have hcapl := hs.le
 have hcapm := hs.max
 obtain ⟨T, hT⟩ : ∃ T, T = turnP key name r d i b ch := ⟨_, rfl⟩
 rw [← hT] at hT0 ⊢
 (refine s_as ?_; refine AtR_nil (At_seq (At_region ?_)); refine s_as ?_; refine AtR_nil (At_seq ?_))
 refine At_meet (σ := Unit) (fun _ => [(0, .pointer (some ⟨c, 0, none⟩)), (4, .pointer (some ⟨b4, 0, none⟩)), (6, .pointer (some ⟨b6, 0, none⟩)), (8, .int .i64 (T.1.2.2 : Int))])
  (fun _ w' => Blk w' b4 40 (0, 0) (trC T.1.1 (T.1.2.1 : Int)) ∧ Blk w' b6 40 (0, 0) z40 ∧ ∃ Ds5 Dc5, ChAt w' c g sp bo key name T.2 Ds5 Dc5 Dg ∧ (¬ Ds5 b6 ∧ ¬ Dc5 b6) ∧ (∀ j, Ds5 j ∨ Dc5 j → Ds j ∨ Dc j ∨ w.heap.size ≤ j) ∧ Kp (fun j => Ds j ∨ Dc j) w w') ?_ ?_
 ·rintro _ w4 junk ⟨B4', B6', Ds5, Dc5, h4, n6', hD4, K4⟩
  have hl := trC_length hT0.2.1 (T.1.2.1 : Int)
  have l6' := B6'.lt
  (refine At_seq (At_region ?_))
  refine s_val (x_load_all rfl B4' hl) ?_
  (refine s_mv ?_)
  refine AtR_go rfl (G_skip (r_store_all (s := 34) (vs := trC T.1.1 (T.1.2.1 : Int)) rfl rfl B6' hl rfl (trC_one _ _)) fun wz ez => ?_)
  (refine s_as ?_; refine AtR_nil ?_)
  have kz : Kp (fun j => j = b6) w4 wz := ez.kp (.inl rfl)
  exact At_ret_cell2 (s := 34) Tryd.func97 rfl rfl ez.blk hl rfl ⟨rfl, Ds5, Dc5, h4.kp kz (by rintro j rfl; exact ⟨n6'.1, n6'.2, hnog _ (by omega)⟩), hD4, K4.trans' kz (by rintro j rfl; right; omega)⟩
 intro join
 by_cases hb0 : b = []
 ·subst hb0
  have hTT : T = if i < roomN d then (((remP key name d 0 r i ch).1.1, d, (remP key name d 0 r i ch).1.2), (remP key name d 0 r i ch).2) else ((r, d, 0), ch) := by rw [hT]; unfold turnP; rw [if_pos rfl]
  rw [show ([] : List UInt8).length = 0 from rfl] at B5 hcapl
  (refine At_block (At_seq (At_region ?_)); refine s_fa ?_; refine s_ld ?_; refine s_ln ?_; refine s_gtr ?_; refine s_as ?_; refine AtR_nil ?_; refine At_cond_f rfl ?_; refine At_seq ?_)
  have kd := Kp.drew (S := No) (w := w3)
  let S : World → Prop := fun w' => Blk w' b5 118 (0, 0) [.int .i64 (i : Int), .slice a 0 cap] ∧ Blk w' b4 40 (0, 0) (trC r (d : Int))
  have hSk : ∀ {w w'}, S w → Kp No w w' → S w' := fun h k => ⟨h.1.kp k fun h => h, h.2.kp k fun h => h⟩
  have hS : S w3.drew := hSk (w := w3) ⟨B5, B4⟩ kd
  refine At_draw S rfl ?_
  (apply AtH_take 0 rfl (by decide +kernel) (by exact rfl); (focus (intro wx hx; skip; exact x_fieldAddrN rfl (by first | exact Nat.zero_add _ | exact Nat.add_zero _ | (simp only [Nat.reduceAdd] <;> rfl) | exact rfl))); (focus (exact hS)))
  (apply AtH_take 2 rfl (by decide +kernel) (by exact rfl); (focus (intro wx hx; skip; exact x_fieldAddrN rfl (by first | exact Nat.zero_add _ | exact Nat.add_zero _ | (simp only [Nat.reduceAdd] <;> rfl) | exact rfl))); (focus (exact hS)))
  refine AtH_take 1 rfl (by decide +kernel) (by exact rfl) (fun wx hx => x_load1 rfl hx.1 rfl) hS ?_
  refine AtH_take 3 rfl (by decide +kernel) (by exact rfl) (fun wx hx => x_load1 rfl hx.2 hdeep) hS ?_
  refine AtH_call 4 rfl (by decide +kernel) (by exact rfl) x_call  (room_calls (d : Int) _ (by omega)) ?_
  rintro _ _ ⟨rfl, rfl⟩
  refine ⟨_, rfl, hS, ?_⟩
  rw [roomZ_nat hd]
  have B4d := B4.kp kd fun h => h
  have B5d := B5.kp kd fun h => h
  have B6d := B6.kp kd fun h => h
  have h3d := h3.kpn kd
  have hKd := hKD.trans (kd.mono (fun _ h => h.elim : ∀ j, No j → (fun j => Ds j ∨ Dc j) j))
  have zd := kd.size
  by_cases hlt : i < roomN d
  ·rw [if_pos hlt] at hTT
   (apply AtH_bool 5 rfl (by decide +kernel) (by exact rfl); (focus (intro wx hx; skip; exact x_lss rfl rfl)); (focus (exact decide_eq_true (by omega))); (focus (exact hS)))
   (apply AtH_take 6 rfl (by decide +kernel) (by exact rfl); (focus (intro wx hx; skip; exact x_assign (by conv => lhs; whnf))); (focus (exact hS)))
   refine AtH_done (by decide +kernel) ?_
   (refine At_cond_t rfl ?_; refine At_region ?_; refine s_mv ?_; refine s_fa ?_)
   refine s_val (x_load_segN rfl (trC_seg B4d) (prC_length hr)) ?_
   (refine s_fa ?_)
   refine s_val (x_load1 rfl B4d hdeep) ?_
   refine s_val (x_build rfl (built153 (d : Int) 0)) ?_
   (refine s_fa ?_; refine s_ld ?_)
   refine s_call x_call (rem_calls key name c g sp bo d hd 0 r i ch _ Ds Dc Dg h3d hr hnum (by omega) (by omega) (by omega) (hsm.mono (by omega))) ?_
   obtain ⟨f1, f2, f3⟩ := rem_fine (key := key) (name := name) d 0 r i ch 0 hr hnum (hsm.mono (by omega))
   generalize remP key name d 0 r i ch = R at *
   obtain ⟨⟨q, cq⟩, ch2⟩ := R
   simp only at hTT f1 f2 f3 ⊢
   subst hTT
   simp only at join
   rintro _ w5 ⟨rfl, Ds5, Dc5, h5c, hD5, k5⟩
   refine ⟨_, rfl, ?_⟩
   have B4e := B4d.kp k5 (out_kp n4)
   have B6e := B6d.kp k5 (out_kp n6)
   have hq33 := prC_length f2
   have m4 := out_of hD5 n4 B4d.lt
   have m6 := out_of hD5 n6 B6d.lt
   (refine s_mv ?_; refine s_ex ?_; refine s_ex ?_; refine s_fa ?_)
   refine AtR_go rfl (G_skip (r_storeN (cs := trC r (d : Int)) (vs := prC q) rfl rfl B4e hq33 (by rw [hl34]; omega) (prC_one _)) fun w8 e8 => ?_)
   rw [trC_lay hr f2] at e8
   have k8 : Kp (fun j => j = b4) w5 w8 := e8.kp (.inl rfl)
   have z5 := k5.size
   (refine s_as ?_; refine AtR_nil ?_)
   refine At_inBlock ?_
   exact join () _ _ ⟨rfl, rfl, rfl, rfl, trivial⟩ ⟨e8.blk, B6e.kp k8 (Ne.symm h46), Ds5, Dc5, h5c.kp k8 (by rintro j rfl; exact ⟨m4.1, m4.2, hnog _ (by omega)⟩), m6, chain_D hD5 hDD (by omega), (chain_K hKd k5 hDD).trans' k8 (by rintro j rfl; right; omega)⟩
  ·rw [if_neg hlt] at hTT
   subst hTT
   (apply AtH_bool 5 rfl (by decide +kernel) (by exact rfl); (focus (intro wx hx; skip; exact x_lss rfl rfl)); (focus (exact decide_eq_false (by omega))); (focus (exact hS)))
   (apply AtH_take 6 rfl (by decide +kernel) (by exact rfl); (focus (intro wx hx; skip; exact x_assign (by conv => lhs; whnf))); (focus (exact hS)))
   refine AtH_done (by decide +kernel) ?_
   (refine At_cond_f rfl ?_; refine At_skip ?_)
   refine At_inBlock ?_
   exact join () _ _ ⟨rfl, rfl, rfl, rfl, trivial⟩ ⟨B4d, B6d, Ds, Dc, h3d, n6, hDD, hKd⟩
 ·have hl512 := hb.resolve_left hb0
  rw [hl512] at B5 hs3
  have hput : T = if (deepP key name i (5 - d) d r ch).1.2.2 = 0 then
   (((putP key name (deepP key name i (5 - d) d r ch).1.2.1 0 (deepP key name i (5 - d) d r ch).1.1 i b (deepP key name i (5 - d) d r ch).2).1.1, (deepP key name i (5 - d) d r ch).1.2.1,
    (putP key name (deepP key name i (5 - d) d r ch).1.2.1 0 (deepP key name i (5 - d) d r ch).1.1 i b (deepP key name i (5 - d) d r ch).2).1.2),
    (putP key name (deepP key name i (5 - d) d r ch).1.2.1 0 (deepP key name i (5 - d) d r ch).1.1 i b (deepP key name i (5 - d) d r ch).2).2)
   else deepP key name i (5 - d) d r ch := by rw [hT]; unfold turnP; rw [if_neg hb0]
  obtain ⟨hD1, hD2, hD3, hD4, hD5⟩ := deepP_ok key name i 12 hi (5 - d) d r ch (by omega) hr hnum (hsm.mono (by omega))
  clear hT0 hT
  (refine At_block (At_seq (At_region ?_)); refine s_fa ?_; refine s_ld ?_; refine s_ln ?_; refine s_gtr ?_; refine s_as ?_; refine AtR_nil ?_; refine At_cond_t rfl ?_; refine At_seq (At_region ?_); refine s_mv ?_)
  refine s_val (x_load_all rfl B4 hl34) ?_
  (refine s_fa ?_; refine s_ld ?_)
  refine s_call x_call (deepen_calls c g sp bo key name ch r d i _ h3 hr hd hi (hsm.mono (by omega))) ?_
  generalize deepP key name i (5 - d) d r ch = D at *
  obtain ⟨⟨r', d', cd⟩, ch'⟩ := D
  simp only at hD1 hD2 hD3 hD4 hD5 hput ⊢
  rintro _ w5 ⟨rfl, Ds5, Dc5, h5c, hDD5, k5⟩
  refine ⟨_, rfl, ?_⟩
  have B4b := B4.kp k5 (out_kp n4)
  have B5b := B5.kp k5 (out_kp n5)
  have B6b := B6.kp k5 (out_kp n6)
  have m4 := out_of hDD5 n4 B4.lt
  have m5 := out_of hDD5 n5 B5.lt
  have m6 := out_of hDD5 n6 B6.lt
  have hrl' := trC_length hD3 (d' : Int)
  (refine s_mv ?_; refine s_ex ?_; refine s_ex ?_)
  refine AtR_go rfl (G_skip (r_store_all (s := 34) (vs := trC r' (d' : Int)) rfl rfl B4b hrl' hl34 (trC_one _ _)) fun w6 e6 => ?_)
  have B4c : Blk w6 b4 40 (0, 0) (trC r' (d' : Int)) := e6.blk
  have k6 : Kp (fun j => j = b4) w5 w6 := e6.kp (.inl rfl)
  have h6 := h5c.kp k6 (by rintro j rfl; exact ⟨m4.1, m4.2, hnog _ (by omega)⟩)
  have B5c := B5b.kp k6 (Ne.symm h45)
  have B6c := B6b.kp k6 (Ne.symm h46)
  have z5 := k5.size
  have z6 := k6.size
  have K6 : Kp (fun j => Ds j ∨ Dc j) w w6 := (hKD.trans k5).trans' k6 (by rintro j rfl; right; omega)
  have hDw := chain_D hDD5 hDD (by omega)
  clear e6
  by_cases hc0 : cd = 0
  ·subst hc0
   have hid := hD5 rfl
   rw [if_pos rfl] at hput
   have hs6 : SlE w6 .u8 a 512 cap (bs8 b) Db := (hs3.kp k5 fun j hj => out_kp (hdb3 j hj).1).kp k6 fun j hj e => by have := (hdb j hj).2; omega
   have hdb6 : ∀ j, Db j → (¬ Ds5 j ∧ ¬ Dc5 j) ∧ j < w6.heap.size := fun j hj => ⟨out_of hDD5 (hdb3 j hj).1 (hdb3 j hj).2, by have := (hdb3 j hj).2; omega⟩
   have hdeep' := trC_deep hD3 (d' : Int)
   (refine s_as ?_; refine AtR_nil (At_seq (At_region ?_)); refine s_mv ?_; refine s_eql ?_; refine AtR_nil ?_; refine At_cond_t rfl ?_; refine At_region ?_; refine s_mv ?_; refine s_fa ?_)
   refine s_val (x_load_segN rfl (trC_seg B4c) (prC_length hD3)) ?_
   (refine s_fa ?_)
   refine s_val (x_load1 rfl B4c hdeep') ?_
   refine s_val (x_build rfl (built153 (d' : Int) 0)) ?_
   (refine s_fa ?_; refine s_ld ?_; refine s_fa ?_; refine s_ld ?_)
   have hrd := roomN_le hD4
   refine s_call x_call (put_calls key name c g sp bo d' hD4 0 r' i b a cap ch' _ Ds5 Dc5 Dg Db h6 hD3 hs6 hdb6 hl512 (by omega) (Nat.zero_le _) (by omega) (hD1.mono (by omega))) ?_
   have hqw := putP_wf key name d' 0 r' i b ch' (hD1.mono (by omega))
   generalize putP key name d' 0 r' i b ch' = res at *
   obtain ⟨⟨q, cq⟩, ch2⟩ := res
   simp only at hqw hput ⊢
   subst hput
   simp only at join
   rintro _ w7 ⟨rfl, Ds7, Dc7, h7, hD7, k7⟩
   refine ⟨_, rfl, ?_⟩
   have B4d := B4c.kp k7 (out_kp m4)
   have B6d := B6c.kp k7 (out_kp m6)
   have p4 := out_of hD7 m4 B4c.lt
   have p6 := out_of hD7 m6 B6c.lt
   have hq33 := prC_length hqw
   (refine s_mv ?_; refine s_ex ?_; refine s_ex ?_; refine s_fa ?_)
   refine AtR_go rfl (G_skip (r_storeN (cs := trC r' (d' : Int)) (vs := prC q) rfl rfl B4d hq33 (by rw [hrl']; omega) (prC_one _)) fun w8 e8 => ?_)
   rw [trC_lay hD3 hqw] at e8
   have k8 : Kp (fun j => j = b4) w7 w8 := e8.kp (.inl rfl)
   have z7 := k7.size
   (refine s_as ?_; refine AtR_nil ?_)
   refine At_inBlock ?_
   exact join () _ _ ⟨rfl, rfl, rfl, rfl, trivial⟩ ⟨e8.blk, B6d.kp k8 (Ne.symm h46), Ds7, Dc7, h7.kp k8 (by rintro j rfl; exact ⟨p4.1, p4.2, hnog _ (by omega)⟩), p6, chain_D hD7 hDw (by omega), (chain_K K6 k7 hDw).trans' k8 (by rintro j rfl; right; omega)⟩
  ·rw [if_neg hc0] at hput
   subst hput
   simp only at join
   (refine s_as ?_; refine AtR_nil (At_seq (At_region ?_)); refine s_mv ?_; refine s_eql ?_; refine AtR_nil ?_; refine At_cond_f rfl ?_; refine At_skip ?_)
   refine At_inBlock ?_
   exact join () _ _ ⟨rfl, rfl, rfl, rfl, trivial⟩ ⟨B4c, B6c, Ds5, Dc5, h6, m6, hDw, K6⟩
end Go.Proofs.YtfngacepjcdlnaaDoor
