/- Trees: Turn, over a store in memory. | Trees: the document's Without, by numbers of any kind; a list of turns in memory. -/
import Derived.Test.YtfngacepjcdlnaaDoorQTj
import Derived.Test.YtfngacepjcdlnaaDoorQNo
set_option linter.unusedVariables false
namespace Go.Kx
open Go
section
attribute [local semireducible] At AtR AtG Run AtH
variable {P : Program} {f : Fm} {n : Nat} {R : Ending → World → Prop} {k : List Item} {env : Env} {w : World} {S : World → Prop} {ops : Array Oper}
theorem AtH_nou {fuel : Nat} {listed : Array Bool} (i : Nat) {o : Oper} {j d : Nat} {b : Bool} (hi : ops[i]? = some o) (hc : canTake ops listed i = true) (hg : o.guard = some (j, b)) (hj : ((ops[j]?).bind (·.dst)) = some d) (hd : d < n) (hu : env d = undef)
  (hS : S w) (h : AtH P f n R ops S k fuel (listed.setIfInBounds i true) (updo env o.dst undef) w) :
  AtH P f n R ops S k (fuel + 1) listed env w := by
 simp only [canTake, Bool.and_eq_true] at hc
 refine wpAnyH_take hi hc.1.1 hc.1.2 hc.2 (fun _ _ _ hq => absurd hq.1 (by simp)) (v := undef) (.inr ⟨?_, rfl⟩) hS ?_
 ·show Region.wanted o (yielded ops (mkA n env).tmps) = false
  have : yielded ops (mkA n env).tmps j = none := by simp only [yielded, hj, Option.bind_some, mkA_get? n env d hd, hu, undef]
  unfold Region.wanted
  rw [hg]
  simp only [this]
  rfl
 ·rw [mkF_put]; exact h
end
end Go.Kx
namespace Go.Mt
open Go Go.Kx Go.Proofs.YtfngacepjcdlnaaDoor
structure XT where
 i : Int
 b : List UInt8
 a : Option Addr
 cap : Nat
def xC (xs : List XT) : List Value := xs.flatMap fun x => [.int .i64 x.i, .slice x.a x.b.length x.cap]
theorem xC_length (xs : List XT) : (xC xs).length = xs.length * 2 := by
 induction xs with
 | nil => rfl
 | cons e l ih => rw [show xC (e :: l) = [.int .i64 e.i, .slice e.a e.b.length e.cap] ++ xC l from rfl, List.length_append, ih, List.length_cons]; simp; omega
theorem xC_get : ∀ {xs : List XT} {i : Nat} (h : i < xs.length), (xC xs)[i * 2]? = some (.int .i64 xs[i].i) ∧ (xC xs)[i * 2 + 1]? = some (.slice xs[i].a xs[i].b.length xs[i].cap)
 | [], i, h => by simp at h
 | e :: l, 0, h => ⟨rfl, rfl⟩
 | e :: l, i + 1, h => by
  have ih := xC_get (xs := l) (i := i) (by simpa using h)
  rw [show xC (e :: l) = [.int .i64 e.i, .slice e.a e.b.length e.cap] ++ xC l from rfl, show (i + 1) * 2 = i * 2 + 2 by omega]
  exact ⟨by rw [List.getElem?_append_right (by simp)]; simpa using ih.1, by rw [List.getElem?_append_right (by simp)]; simpa using ih.2⟩
theorem xC_app (l m : List XT) : xC (l ++ m) = xC l ++ xC m := by simp [xC]
def xN (xs : List XT) : List (Nat × List UInt8) := xs.map fun x => (x.i.toNat, x.b)
def XT.ok (x : XT) : Prop := 0 ≤ x.i ∧ x.i < 537824
structure XT.at (x : XT) (w : World) (D : Nat → Prop) : Prop where
 sl : SlE w .u8 x.a x.b.length x.cap (bs8 x.b) D
 len : x.b = [] ∨ x.b.length = 512
 num : -9223372036854775808 ≤ x.i ∧ x.i ≤ 9223372036854775807
theorem XT.at.kpn {x : XT} {w w' : World} {D : Nat → Prop} (h : x.at w D) (k : Kp No w w') : x.at w' D := ⟨h.sl.kpn k, h.len, h.num⟩
def turnV (key name : List UInt8) (st : St) (r : Pr) (d n : Nat) (xs : List (Nat × List UInt8)) : List Value :=
 if (turnT key name st r d n xs).1.2.2 = 0 then trC (turnT key name st r d n xs).1.1 ((turnT key name st r d n xs).1.2.1 : Int) else trC Pr.zero 0
theorem turns_snoc {key name : List UInt8} {xs : List (Nat × List UInt8)} {s : (Pr × Nat × Nat) × Ch} {k : Nat} (h : k < xs.length) : (xs.take (k + 1)).foldl (turn1 key name) s = turn1 key name ((xs.take k).foldl (turn1 key name) s) xs[k] := by
 rw [List.take_succ_eq_append_getElem h, List.foldl_append]; rfl
end Go.Mt
namespace Go.Proofs.YtfngacepjcdlnaaDoor
open Go Go.Kx Go.Kr Go.Mt
set_option maxRecDepth 100000 in
set_option maxHeartbeats 64000000 in
theorem Turn_wood (g sp bo : Nat) (key name : List UInt8) (st : St) (r : Pr) (d : Nat) (cut : Int) (xs : List XT) (ax : Option Addr) (cap : Nat) (w : World) {Ds Dg Db : Nat → Prop} (h : Wood w g sp bo key name st Ds Dg) (hr : r.wf) (hd : d ≤ 5) (hcut : -9223372036854775808 ≤ cut ∧ cut ≤ 9223372036854775807)
  (hxo : Own w 118 2 ax xs.length cap (xC xs)) (hxs : ∀ x ∈ xs, x.at w Db) (hdb : ∀ j, Db j → ¬ Ds j ∧ j < w.heap.size) (hax : ∀ j, blkOf ax j → ¬ Ds j) (hxl : xs.length ≤ 100) (hsm : st.b.length ≤ 300000) :
  Calls Tryd.prog 64 #[.pointer (some ⟨g, 0, none⟩), .agg (trC r (d : Int)).toArray, .int .i64 cut, .slice ax xs.length cap] w fun e w' =>
   (¬ (0 ≤ cut ∧ ∀ x ∈ xs, x.ok) ∧ e = .returned (.tuple #[.agg (trC Pr.zero 0).toArray, .int .i64 2]) ∧ Kp No w w') ∨
   ((0 ≤ cut ∧ ∀ x ∈ xs, x.ok) ∧ e = .returned (.tuple #[.agg (turnV key name st r d cut.toNat (xN xs)).toArray, .int .i64 ((turnT key name st r d cut.toNat (xN xs)).1.2.2 : Int)]) ∧
    ∃ Ds', Wood w' g sp bo key name (turnS key name st r d cut.toNat (xN xs)) Ds' Dg ∧ (∀ j, Ds' j → Ds j ∨ w.heap.size ≤ j) ∧ Kp Ds w w') := by
 refine calls_at (n := 92) Tryd.func64 rfl rfl (by simp) ?_
 have hl34 := trC_length hr (d : Int)
 have hr33 := prC_length hr
 have hgs := h.sep
 have hxc := hxo.2.1
 have hxm : cap ≤ maxLen := hxo.2.2.1
 simp only [maxLen] at hxm
 (refine At_seq (At_region ?_))
 refine AtR_go rfl (AtG_box rfl fun b5 w1 hb5 e1 => ?_)
 have B5 : Blk w1 b5 40 (0, 0) (trC r (d : Int)) := e1.blk
 have k1 : Kp No w w1 := e1.kp (.inr (by omega))
 clear e1
 refine AtR_go rfl (AtG_alloc fun b8 w2 hb8 e2 => ?_)
 have B8 : Blk w2 b8 40 (0, 0) z40 := e2.blk
 have k2 : Kp No w1 w2 := e2.kp (.inr (by omega))
 have z1 := k1.size
 have z2 := k2.size
 have l5 := B5.lt
 have l8 := B8.lt
 have h58 : b5 ≠ b8 := by omega
 clear e2
 replace B5 := B5.kp k2 fun h => h
 (refine s_as ?_; refine AtR_nil (At_seq (At_seq ?_)); refine At_region ?_)
 refine s_val (x_load_all rfl B5 hl34) ?_
 refine s_call x_call (right_calls r (d : Int) _ hr) ?_
 rintro _ w3 ⟨rfl, k3⟩
 refine ⟨_, rfl, ?_⟩
 rw [decide_eq_true (⟨by omega, by omega⟩ : 0 ≤ (d : Int) ∧ (d : Int) ≤ 5)]
 have hdeep := trC_deep hr (d : Int)
 have z3 := k3.size
 have K3 := (k1.trans k2).trans k3
 have B5a := B5.kp k3 fun h => h
 have B8a := B8.kp k3 fun h => h
 clear B5 B8
 have bad : ∀ {w5 w6 : World}, Kp No w w5 → Eff w5 w6 b8 (.cells (trC Pr.zero 0).toArray 40 (0, 0)) → Kp No w w6 := fun {w5 w6} k e => k.trans' (e.kp (S := fun j => j = b8) (.inl rfl)) (by rintro j rfl; right; omega)
 by_cases h0 : cut < 0
 ·(refine s_nt ?_; refine s_mv ?_; refine s_yes rfl rfl rfl rfl ?_; refine g_mv ?_; refine s_yes rfl rfl rfl rfl ?_; refine g_lss ?_; refine s_pf ?_; refine AtR_nil ?_; refine At_cond_t rfl ?_; refine At_seq (At_region ?_))
  refine s_val (x_build (by first | rfl | exact rfl) built40_nil) ?_
  refine AtR_go rfl (G_skip (r_store_all (s := 34) (vs := trC Pr.zero 0) rfl rfl B8a rfl rfl rfl) fun w6 e6 => ?_)
  (refine s_as ?_; refine AtR_nil ?_)
  exact At_ret_cell2 (s := 34) Tryd.func64 rfl rfl e6.blk rfl rfl (.inl ⟨fun hh => by omega, rfl, bad K3 e6⟩)
 obtain ⟨n, rfl⟩ : ∃ n : Nat, cut = n := ⟨cut.toNat, by omega⟩
 rw [Int.toNat_natCast]
 (refine s_nt ?_; refine s_mv ?_; refine s_yes rfl rfl rfl rfl ?_; refine g_mv ?_; refine s_yes rfl rfl rfl rfl ?_; refine g_lss ?_; refine s_pf ?_; refine AtR_nil ?_; refine At_cond_f rfl ?_; refine At_skip (At_seq (At_seq (At_region ?_))); refine s_mv ?_; refine s_ln ?_; refine s_mv ?_; refine AtR_nil (At_block ?_))
 refine At_while (fun k : Nat => [(0, .pointer (some ⟨g, 0, none⟩)), (2, .int .i64 (n : Int)), (3, .slice ax xs.length cap), (5, .pointer (some ⟨b5, 0, none⟩)), (8, .pointer (some ⟨b8, 0, none⟩)), (25, .slice ax xs.length cap), (26, .int .i64 (xs.length : Int)), (27, .int .i64 (k : Int))])
  (fun k w' => k ≤ xs.length ∧ (∀ j (hj : j < xs.length), j < k → xs[j].ok) ∧ Kp No w3 w') (fun k => xs.length - k) 0 ⟨rfl, rfl, rfl, rfl, rfl, rfl, rfl, rfl, trivial⟩ ⟨by omega, fun j _ hj => by omega, Kp.refl _ _⟩ ?_
 rintro k w4 junk ⟨hk, hok, k4⟩ again
 have K4 := K3.trans k4
 have B5b := B5a.kp k4 fun h => h
 have B8b := B8a.kp k4 fun h => h
 have z4 := k4.size
 by_cases hlt : k < xs.length
 ·have ho4 := hxo.kp K4 fun _ _ h => h
  obtain ⟨b0, sp0, rfl, _, _, hseg⟩ := own_in ho4 (by omega)
  obtain ⟨g1, g2⟩ := xC_get hlt
  have hxat := hxs _ (List.getElem_mem hlt)
  have hnum := hxat.num
  have hlen := hxat.len
  have hscap := hxat.sl.le
  have hsmax := hxat.sl.max
  have hsub : Seg w4 b0 (0 + k * 2) [.int .i64 xs[k].i, .slice xs[k].a xs[k].b.length xs[k].cap] := fun j hj => by
   have h := hseg (k * 2 + j) (by rw [xC_length]; simp at hj; omega)
   rw [Nat.add_assoc, h]
   match j, hj with
   | 0, _ => exact g1
   | 1, _ => exact g2
  have hokk : ∀ j (hj : j < xs.length), j < k + 1 → xs[k].ok → xs[j].ok := fun j hj hjk hx => by
   by_cases e : j = k
   ·subst e; exact hx
   ·exact hok j hj (by omega)
  have hbadk : ¬ xs[k].ok → ¬ (0 ≤ (n : Int) ∧ ∀ x ∈ xs, x.ok) := fun hn hh => hn (hh.2 _ (List.getElem_mem hlt))
  have hxlen : xs[k].b.length = 0 ∨ xs[k].b.length = 512 := hlen.imp (fun e => by rw [e]; rfl) id
  have hokdef : xs[k].ok ↔ 0 ≤ xs[k].i ∧ xs[k].i < 537824 := Iff.rfl
  generalize xs[k].ok = OK at *
  generalize xs[k].i = xi at *
  generalize xs[k].a = xa at *
  generalize xs[k].cap = xcap at *
  generalize xs[k].b.length = xl at *
  (refine At_seq (At_region ?_); refine s_lss ?_; refine AtR_nil (At_seq ?_); refine At_cond_t rfl ?_; refine At_skip (At_seq (At_block (At_seq ?_))); refine At_region ?_)
  refine s_val (x_indexAddr (s := 2) rfl rfl (by omega) (by omega)) ?_
  rw [Int.toNat_natCast]
  refine s_val (x_load_segN rfl hsub rfl) ?_
  refine AtR_go rfl (AtG_alloc fun b11 w5 hb11 e5 => ?_)
  refine AtR_go rfl (G_skip (r_store_all (s := 2) (vs := [.int .i64 xi, .slice xa xl xcap]) rfl rfl e5.blk rfl rfl rfl) fun w6 e6 => ?_)
  have B11 : Blk w6 b11 118 (0, 0) [.int .i64 xi, .slice xa xl xcap] := e6.blk
  have k6 : Kp No w4 w6 := (e5.kp (S := No) (.inr (by omega))).trans' (e6.kp (S := fun j => j = b11) (.inl rfl)) (by rintro j rfl; right; omega)
  clear e5 e6
  (refine AtR_nil (At_seq ?_))
  have kd := Kp.drew (S := No) (w := w6)
  let S : World → Prop := fun w' => Blk w' b11 118 (0, 0) [.int .i64 xi, .slice xa xl xcap]
  have hS : S w6.drew := B11.kp kd fun h => h
  have B8c := (B8b.kp k6 fun h => h).kp kd fun h => h
  have K6 := K4.trans (k6.trans kd)
  refine At_draw S rfl ?_
  by_cases c1 : xi < 0
  ·skip
   (apply AtH_take 0 rfl (by decide +kernel) (by exact rfl); (focus (intro wx hx; skip; exact x_fieldAddrN rfl (by first | exact Nat.zero_add _ | exact Nat.add_zero _ | (simp only [Nat.reduceAdd] <;> rfl) | exact rfl))); (focus (exact hS)))
   refine AtH_take 1 rfl (by decide +kernel) (by exact rfl) (fun wx hx => x_load1 rfl hx rfl) hS ?_
   (apply AtH_bool 2 rfl (by decide +kernel) (by exact rfl); (focus (intro wx hx; skip; exact x_lss rfl rfl)); (focus (exact decide_eq_true (by omega))); (focus (exact hS)))
   (apply AtH_take 3 rfl (by decide +kernel) (by exact rfl); (focus (intro wx hx; skip; exact x_move (by conv => lhs; whnf))); (focus (exact hS)))
   refine AtH_no 4 rfl (by decide +kernel) (by exact ⟨_, _, rfl, by decide, rfl, rfl⟩) hS ?_
   refine AtH_no 5 rfl (by decide +kernel) (by exact ⟨_, _, rfl, by decide, rfl, rfl⟩) hS ?_
   refine AtH_no 6 rfl (by decide +kernel) (by exact ⟨_, _, rfl, by decide, rfl, rfl⟩) hS ?_
   refine AtH_no 7 rfl (by decide +kernel) (by exact ⟨_, _, rfl, by decide, rfl, rfl⟩) hS ?_
   (apply AtH_take 8 rfl (by decide +kernel) (by exact rfl); (focus (intro wx hx; skip; exact x_pick_t rfl (by conv => lhs; whnf))); (focus (exact hS)))
   (apply AtH_take 9 rfl (by decide +kernel) (by exact rfl); (focus (intro wx hx; skip; exact x_move (by conv => lhs; whnf))); (focus (exact hS)))
   refine AtH_no 10 rfl (by decide +kernel) (by exact ⟨_, _, rfl, by decide, rfl, rfl⟩) hS ?_
   refine AtH_no 11 rfl (by decide +kernel) (by exact ⟨_, _, rfl, by decide, rfl, rfl⟩) hS ?_
   refine AtH_no 12 rfl (by decide +kernel) (by exact ⟨_, _, rfl, by decide, rfl, rfl⟩) hS ?_
   refine AtH_no 13 rfl (by decide +kernel) (by exact ⟨_, _, rfl, by decide, rfl, rfl⟩) hS ?_
   refine AtH_no 14 rfl (by decide +kernel) (by exact ⟨_, _, rfl, by decide, rfl, rfl⟩) hS ?_
   refine AtH_nou 15 rfl (by decide +kernel) rfl rfl (by decide) rfl hS ?_
   refine AtH_nou 16 rfl (by decide +kernel) rfl rfl (by decide) rfl hS ?_
   refine AtH_nou 17 rfl (by decide +kernel) rfl rfl (by decide) rfl hS ?_
   refine AtH_nou 18 rfl (by decide +kernel) rfl rfl (by decide) rfl hS ?_
   refine AtH_no 19 rfl (by decide +kernel) (by exact ⟨_, _, rfl, by decide, rfl, rfl⟩) hS ?_
   (apply AtH_take 20 rfl (by decide +kernel) (by exact rfl); (focus (intro wx hx; skip; exact x_pick_t rfl (by conv => lhs; whnf))); (focus (exact hS)))
   refine AtH_done (by decide +kernel) ?_
   (refine At_cond_t rfl ?_; refine At_seq (At_region ?_))
   refine s_val (x_build (by first | rfl | exact rfl) built40_nil) ?_
   refine AtR_go rfl (G_skip (r_store_all (s := 34) (vs := trC Pr.zero 0) rfl rfl B8c rfl rfl rfl) fun w6 e6 => ?_)
   (refine s_as ?_; refine AtR_nil ?_)
   exact At_ret_cell2 (s := 34) Tryd.func64 rfl rfl e6.blk rfl rfl (.inl ⟨hbadk fun h => by have := hokdef.1 h; omega, rfl, bad K6 e6⟩)
  by_cases c2 : 537824 ≤ xi
  ·skip
   (apply AtH_take 0 rfl (by decide +kernel) (by exact rfl); (focus (intro wx hx; skip; exact x_fieldAddrN rfl (by first | exact Nat.zero_add _ | exact Nat.add_zero _ | (simp only [Nat.reduceAdd] <;> rfl) | exact rfl))); (focus (exact hS)))
   refine AtH_take 1 rfl (by decide +kernel) (by exact rfl) (fun wx hx => x_load1 rfl hx rfl) hS ?_
   (apply AtH_bool 2 rfl (by decide +kernel) (by exact rfl); (focus (intro wx hx; skip; exact x_lss rfl rfl)); (focus (exact decide_eq_false (by omega))); (focus (exact hS)))
   (apply AtH_take 3 rfl (by decide +kernel) (by exact rfl); (focus (intro wx hx; skip; exact x_move (by conv => lhs; whnf))); (focus (exact hS)))
   (apply AtH_take 4 rfl (by decide +kernel) (by exact ⟨_, _, rfl, by decide, rfl, rfl⟩); (focus (intro wx hx; skip; exact x_fieldAddrN rfl (by first | exact Nat.zero_add _ | exact Nat.add_zero _ | (simp only [Nat.reduceAdd] <;> rfl) | exact rfl))); (focus (exact hS)))
   refine AtH_take 5 rfl (by decide +kernel) (by exact ⟨_, _, rfl, by decide, rfl, rfl⟩) (fun wx hx => x_load1 rfl hx rfl) hS ?_
   refine AtH_call 6 rfl (by decide +kernel) (by exact ⟨_, _, rfl, by decide, rfl, rfl⟩) x_call  (room_calls 5 _ (by omega)) ?_
   rintro _ _ ⟨rfl, rfl⟩
   refine ⟨_, rfl, hS, ?_⟩
   rw [show roomZ 5 = 537824 from rfl]
   (apply AtH_bool 7 rfl (by decide +kernel) (by exact ⟨_, _, rfl, by decide, rfl, rfl⟩); (focus (intro wx hx; skip; exact x_geq rfl rfl)); (focus (exact decide_eq_true (by omega))); (focus (exact hS)))
   (apply AtH_take 8 rfl (by decide +kernel) (by exact rfl); (focus (intro wx hx; skip; exact x_pick_f rfl (by conv => lhs; whnf))); (focus (exact hS)))
   (apply AtH_take 9 rfl (by decide +kernel) (by exact rfl); (focus (intro wx hx; skip; exact x_move (by conv => lhs; whnf))); (focus (exact hS)))
   refine AtH_no 10 rfl (by decide +kernel) (by exact ⟨_, _, rfl, by decide, rfl, rfl⟩) hS ?_
   refine AtH_no 11 rfl (by decide +kernel) (by exact ⟨_, _, rfl, by decide, rfl, rfl⟩) hS ?_
   refine AtH_no 12 rfl (by decide +kernel) (by exact ⟨_, _, rfl, by decide, rfl, rfl⟩) hS ?_
   refine AtH_no 13 rfl (by decide +kernel) (by exact ⟨_, _, rfl, by decide, rfl, rfl⟩) hS ?_
   refine AtH_no 14 rfl (by decide +kernel) (by exact ⟨_, _, rfl, by decide, rfl, rfl⟩) hS ?_
   refine AtH_nou 15 rfl (by decide +kernel) rfl rfl (by decide) rfl hS ?_
   refine AtH_nou 16 rfl (by decide +kernel) rfl rfl (by decide) rfl hS ?_
   refine AtH_nou 17 rfl (by decide +kernel) rfl rfl (by decide) rfl hS ?_
   refine AtH_nou 18 rfl (by decide +kernel) rfl rfl (by decide) rfl hS ?_
   refine AtH_no 19 rfl (by decide +kernel) (by exact ⟨_, _, rfl, by decide, rfl, rfl⟩) hS ?_
   (apply AtH_take 20 rfl (by decide +kernel) (by exact rfl); (focus (intro wx hx; skip; exact x_pick_t rfl (by conv => lhs; whnf))); (focus (exact hS)))
   refine AtH_done (by decide +kernel) ?_
   (refine At_cond_t rfl ?_; refine At_seq (At_region ?_))
   refine s_val (x_build (by first | rfl | exact rfl) built40_nil) ?_
   refine AtR_go rfl (G_skip (r_store_all (s := 34) (vs := trC Pr.zero 0) rfl rfl B8c rfl rfl rfl) fun w6 e6 => ?_)
   (refine s_as ?_; refine AtR_nil ?_)
   exact At_ret_cell2 (s := 34) Tryd.func64 rfl rfl e6.blk rfl rfl (.inl ⟨hbadk fun h => by have := hokdef.1 h; omega, rfl, bad K6 e6⟩)
  rcases hxlen with hxl0 | hxl0
  ·subst hxl0
   (apply AtH_take 0 rfl (by decide +kernel) (by exact rfl); (focus (intro wx hx; skip; exact x_fieldAddrN rfl (by first | exact Nat.zero_add _ | exact Nat.add_zero _ | (simp only [Nat.reduceAdd] <;> rfl) | exact rfl))); (focus (exact hS)))
   refine AtH_take 1 rfl (by decide +kernel) (by exact rfl) (fun wx hx => x_load1 rfl hx rfl) hS ?_
   (apply AtH_bool 2 rfl (by decide +kernel) (by exact rfl); (focus (intro wx hx; skip; exact x_lss rfl rfl)); (focus (exact decide_eq_false (by omega))); (focus (exact hS)))
   (apply AtH_take 3 rfl (by decide +kernel) (by exact rfl); (focus (intro wx hx; skip; exact x_move (by conv => lhs; whnf))); (focus (exact hS)))
   (apply AtH_take 4 rfl (by decide +kernel) (by exact ⟨_, _, rfl, by decide, rfl, rfl⟩); (focus (intro wx hx; skip; exact x_fieldAddrN rfl (by first | exact Nat.zero_add _ | exact Nat.add_zero _ | (simp only [Nat.reduceAdd] <;> rfl) | exact rfl))); (focus (exact hS)))
   refine AtH_take 5 rfl (by decide +kernel) (by exact ⟨_, _, rfl, by decide, rfl, rfl⟩) (fun wx hx => x_load1 rfl hx rfl) hS ?_
   refine AtH_call 6 rfl (by decide +kernel) (by exact ⟨_, _, rfl, by decide, rfl, rfl⟩) x_call  (room_calls 5 _ (by omega)) ?_
   rintro _ _ ⟨rfl, rfl⟩
   refine ⟨_, rfl, hS, ?_⟩
   rw [show roomZ 5 = 537824 from rfl]
   (apply AtH_bool 7 rfl (by decide +kernel) (by exact ⟨_, _, rfl, by decide, rfl, rfl⟩); (focus (intro wx hx; skip; exact x_geq rfl rfl)); (focus (exact decide_eq_false (by omega))); (focus (exact hS)))
   (apply AtH_take 8 rfl (by decide +kernel) (by exact rfl); (focus (intro wx hx; skip; exact x_pick_f rfl (by conv => lhs; whnf))); (focus (exact hS)))
   (apply AtH_take 9 rfl (by decide +kernel) (by exact rfl); (focus (intro wx hx; skip; exact x_move (by conv => lhs; whnf))); (focus (exact hS)))
   (apply AtH_take 10 rfl (by decide +kernel) (by exact ⟨_, _, rfl, by decide, rfl, rfl⟩); (focus (intro wx hx; skip; exact x_fieldAddrN rfl (by first | exact Nat.zero_add _ | exact Nat.add_zero _ | (simp only [Nat.reduceAdd] <;> rfl) | exact rfl))); (focus (exact hS)))
   refine AtH_take 11 rfl (by decide +kernel) (by exact ⟨_, _, rfl, by decide, rfl, rfl⟩) (fun wx hx => x_load1 rfl hx rfl) hS ?_
   (apply AtH_take 12 rfl (by decide +kernel) (by exact ⟨_, _, rfl, by decide, rfl, rfl⟩); (focus (intro wx hx; skip; exact x_len_slice rfl)); (focus (exact hS)))
   (apply AtH_bool 13 rfl (by decide +kernel) (by exact ⟨_, _, rfl, by decide, rfl, rfl⟩); (focus (intro wx hx; skip; exact x_neq rfl rfl)); (focus (exact decide_eq_false (by omega))); (focus (exact hS)))
   (apply AtH_take 14 rfl (by decide +kernel) (by exact ⟨_, _, rfl, by decide, rfl, rfl⟩); (focus (intro wx hx; skip; exact x_move (by conv => lhs; whnf))); (focus (exact hS)))
   refine AtH_no 15 rfl (by decide +kernel) (by exact ⟨_, _, rfl, by decide, rfl, rfl⟩) hS ?_
   refine AtH_no 16 rfl (by decide +kernel) (by exact ⟨_, _, rfl, by decide, rfl, rfl⟩) hS ?_
   refine AtH_no 17 rfl (by decide +kernel) (by exact ⟨_, _, rfl, by decide, rfl, rfl⟩) hS ?_
   refine AtH_no 18 rfl (by decide +kernel) (by exact ⟨_, _, rfl, by decide, rfl, rfl⟩) hS ?_
   (apply AtH_take 19 rfl (by decide +kernel) (by exact ⟨_, _, rfl, by decide, rfl, rfl⟩); (focus (intro wx hx; skip; exact x_pick_f rfl (by conv => lhs; whnf))); (focus (exact hS)))
   (apply AtH_take 20 rfl (by decide +kernel) (by exact rfl); (focus (intro wx hx; skip; exact x_pick_f rfl (by conv => lhs; whnf))); (focus (exact hS)))
   refine AtH_done (by decide +kernel) ?_
   (refine At_cond_f rfl ?_; refine At_skip (At_inBlock (At_region ?_)); refine s_ad ?_; refine s_mv ?_; refine AtR_nil ?_)
   exact again (k + 1) _ _ ⟨rfl, rfl, rfl, rfl, rfl, rfl, rfl, rfl, trivial⟩ ⟨hlt, fun j hj hjk => hokk j hj hjk (hokdef.2 (by omega)), (k4.trans k6).trans kd⟩ (by omega)
  ·subst hxl0
   (apply AtH_take 0 rfl (by decide +kernel) (by exact rfl); (focus (intro wx hx; skip; exact x_fieldAddrN rfl (by first | exact Nat.zero_add _ | exact Nat.add_zero _ | (simp only [Nat.reduceAdd] <;> rfl) | exact rfl))); (focus (exact hS)))
   refine AtH_take 1 rfl (by decide +kernel) (by exact rfl) (fun wx hx => x_load1 rfl hx rfl) hS ?_
   (apply AtH_bool 2 rfl (by decide +kernel) (by exact rfl); (focus (intro wx hx; skip; exact x_lss rfl rfl)); (focus (exact decide_eq_false (by omega))); (focus (exact hS)))
   (apply AtH_take 3 rfl (by decide +kernel) (by exact rfl); (focus (intro wx hx; skip; exact x_move (by conv => lhs; whnf))); (focus (exact hS)))
   (apply AtH_take 4 rfl (by decide +kernel) (by exact ⟨_, _, rfl, by decide, rfl, rfl⟩); (focus (intro wx hx; skip; exact x_fieldAddrN rfl (by first | exact Nat.zero_add _ | exact Nat.add_zero _ | (simp only [Nat.reduceAdd] <;> rfl) | exact rfl))); (focus (exact hS)))
   refine AtH_take 5 rfl (by decide +kernel) (by exact ⟨_, _, rfl, by decide, rfl, rfl⟩) (fun wx hx => x_load1 rfl hx rfl) hS ?_
   refine AtH_call 6 rfl (by decide +kernel) (by exact ⟨_, _, rfl, by decide, rfl, rfl⟩) x_call  (room_calls 5 _ (by omega)) ?_
   rintro _ _ ⟨rfl, rfl⟩
   refine ⟨_, rfl, hS, ?_⟩
   rw [show roomZ 5 = 537824 from rfl]
   (apply AtH_bool 7 rfl (by decide +kernel) (by exact ⟨_, _, rfl, by decide, rfl, rfl⟩); (focus (intro wx hx; skip; exact x_geq rfl rfl)); (focus (exact decide_eq_false (by omega))); (focus (exact hS)))
   (apply AtH_take 8 rfl (by decide +kernel) (by exact rfl); (focus (intro wx hx; skip; exact x_pick_f rfl (by conv => lhs; whnf))); (focus (exact hS)))
   (apply AtH_take 9 rfl (by decide +kernel) (by exact rfl); (focus (intro wx hx; skip; exact x_move (by conv => lhs; whnf))); (focus (exact hS)))
   (apply AtH_take 10 rfl (by decide +kernel) (by exact ⟨_, _, rfl, by decide, rfl, rfl⟩); (focus (intro wx hx; skip; exact x_fieldAddrN rfl (by first | exact Nat.zero_add _ | exact Nat.add_zero _ | (simp only [Nat.reduceAdd] <;> rfl) | exact rfl))); (focus (exact hS)))
   refine AtH_take 11 rfl (by decide +kernel) (by exact ⟨_, _, rfl, by decide, rfl, rfl⟩) (fun wx hx => x_load1 rfl hx rfl) hS ?_
   (apply AtH_take 12 rfl (by decide +kernel) (by exact ⟨_, _, rfl, by decide, rfl, rfl⟩); (focus (intro wx hx; skip; exact x_len_slice rfl)); (focus (exact hS)))
   (apply AtH_bool 13 rfl (by decide +kernel) (by exact ⟨_, _, rfl, by decide, rfl, rfl⟩); (focus (intro wx hx; skip; exact x_neq rfl rfl)); (focus (exact decide_eq_true (by omega))); (focus (exact hS)))
   (apply AtH_take 14 rfl (by decide +kernel) (by exact ⟨_, _, rfl, by decide, rfl, rfl⟩); (focus (intro wx hx; skip; exact x_move (by conv => lhs; whnf))); (focus (exact hS)))
   (apply AtH_take 15 rfl (by decide +kernel) (by exact ⟨_, _, rfl, by decide, rfl, rfl⟩); (focus (intro wx hx; skip; exact x_fieldAddrN rfl (by first | exact Nat.zero_add _ | exact Nat.add_zero _ | (simp only [Nat.reduceAdd] <;> rfl) | exact rfl))); (focus (exact hS)))
   refine AtH_take 16 rfl (by decide +kernel) (by exact ⟨_, _, rfl, by decide, rfl, rfl⟩) (fun wx hx => x_load1 rfl hx rfl) hS ?_
   (apply AtH_take 17 rfl (by decide +kernel) (by exact ⟨_, _, rfl, by decide, rfl, rfl⟩); (focus (intro wx hx; skip; exact x_len_slice rfl)); (focus (exact hS)))
   (apply AtH_bool 18 rfl (by decide +kernel) (by exact ⟨_, _, rfl, by decide, rfl, rfl⟩); (focus (intro wx hx; skip; exact x_neq rfl rfl)); (focus (exact decide_eq_false (by omega))); (focus (exact hS)))
   (apply AtH_take 19 rfl (by decide +kernel) (by exact ⟨_, _, rfl, by decide, rfl, rfl⟩); (focus (intro wx hx; skip; exact x_pick_t rfl (by conv => lhs; whnf))); (focus (exact hS)))
   (apply AtH_take 20 rfl (by decide +kernel) (by exact rfl); (focus (intro wx hx; skip; exact x_pick_f rfl (by conv => lhs; whnf))); (focus (exact hS)))
   refine AtH_done (by decide +kernel) ?_
   (refine At_cond_f rfl ?_; refine At_skip (At_inBlock (At_region ?_)); refine s_ad ?_; refine s_mv ?_; refine AtR_nil ?_)
   exact again (k + 1) _ _ ⟨rfl, rfl, rfl, rfl, rfl, rfl, rfl, rfl, trivial⟩ ⟨hlt, fun j hj hjk => hokk j hj hjk (hokdef.2 (by omega)), (k4.trans k6).trans kd⟩ (by omega)
 have hkn : k = xs.length := by omega
 clear again bad
 have hgood : 0 ≤ (n : Int) ∧ ∀ x ∈ xs, x.ok := ⟨by omega, fun x hx => by
  obtain ⟨j, hj, rfl⟩ := List.getElem_of_mem hx
  exact hok j hj (by omega)⟩
 have hXn : (xN xs).length = xs.length := List.length_map _
 have hokX : ∀ x ∈ xN xs, okX x := fun x hx => by
  obtain ⟨y, hy, rfl⟩ := List.mem_map.1 hx
  have := hgood.2 y hy
  unfold XT.ok at this
  have h5r : roomN 5 = 537824 := rfl
  exact ⟨by simp only; omega, (hxs y hy).len⟩
 (refine At_seq (At_region ?_); refine s_lss ?_; refine AtR_nil (At_seq ?_); refine At_cond_f rfl ?_; refine At_exit rfl ?_; refine At_seq (At_region ?_); refine s_mv ?_)
 refine s_val (x_build rfl (built149 g)) ?_
 refine AtR_go rfl (AtG_box rfl fun c w5 hc5 e5 => ?_)
 have C5 : Blk w5 c 149 (0, 0) [.pointer (some ⟨g, 0, none⟩), .slice none 0 0, .slice none 0 0] := e5.blk
 have k5 : Kp No w4 w5 := e5.kp (.inr (by omega))
 have K5 := K4.trans k5
 have z5 := k5.size
 clear e5
 have B5c := B5b.kp k5 fun h => h
 have B8c := B8b.kp k5 fun h => h
 have hch : ChAt w5 c g sp bo key name ⟨st, [], []⟩ Ds (fun j => j = c) Dg := by
  refine ⟨h.gr.kpn K5, h.stt.kpn K5, ⟨none, 0, none, 0, C5, Own.nil _ _ _, Own.nil _ _ _, fun j hj => by simp [blkOf] at hj, fun j hj => by simp [blkOf] at hj, fun j hj => by simp [blkOf] at hj⟩, rfl, ?_, ?_, ?_, ?_⟩
  ·rintro j hj rfl; have := h.stt.dlt _ hj; omega
  ·refine fun j hj => ⟨(hgs j hj).1, ?_⟩
   rintro rfl; have := (hgs _ hj).2; omega
  ·rintro j rfl; exact C5.lt
  ·exact fun j hj => Nat.lt_of_lt_of_le (hgs j hj).2 K5.size
 have hst := stp_le hd
 have hrl := roomN_le hd
 have hfine0 : TFine (24 * (xN xs).length + 24) (cut1 key name st r d n) := cut1_fine hr hd h.stt.all (by omega)
 have hs0 : Small ⟨st, [], []⟩ (stp d) := ⟨by simp only; omega, by simp only [List.length_nil]; omega, by simp only [List.length_nil]; omega⟩
 have hn0 : Nums ⟨st, [], []⟩ := ⟨(fun n hn => by cases hn), (fun n hn => by cases hn), h.stt.all⟩
 (refine s_as ?_; refine AtR_nil (At_seq (At_region ?_)); refine s_mv ?_; refine s_fa ?_)
 refine s_val (x_load_segN rfl (trC_seg B5c) hr33) ?_
 (refine s_fa ?_)
 refine s_val (x_load1 rfl B5c hdeep) ?_
 refine s_val (x_build rfl (built153 (d : Int) 0)) ?_
 (refine s_mv ?_)
 refine s_call x_call (cut_calls key name c g sp bo d hd 0 r n ⟨st, [], []⟩ _ Ds (fun j => j = c) Dg hch hr hn0 (by omega) (by omega) hs0) ?_
 have hc1 : cut1 key name st r d n = (((cutP key name d 0 r n ⟨st, [], []⟩).1.1, d, (cutP key name d 0 r n ⟨st, [], []⟩).1.2), (cutP key name d 0 r n ⟨st, [], []⟩).2) := rfl
 generalize cutP key name d 0 r n ⟨st, [], []⟩ = res at *
 obtain ⟨⟨q, cq⟩, ch2⟩ := res
 simp only at hc1 ⊢
 rintro _ w6 ⟨rfl, Ds6, Dc6, h6, hDD6, k6⟩
 refine ⟨_, rfl, ?_⟩
 have hqw : q.wf := by have := hfine0.2.1; rw [hc1] at this; exact this
 have hq33 := prC_length hqw
 have hDs : ∀ j, w.heap.size ≤ j → ¬ Ds j := fun j hj hd => by have := h.stt.dlt j hd; omega
 have hngb : ∀ j, w.heap.size ≤ j → ¬ Dg j := fun j hj hd => by have := (hgs j hd).2; omega
 have n5 : ¬ Ds b5 ∧ ¬ (b5 = c) := ⟨hDs _ (by omega), by omega⟩
 have n8 : ¬ Ds b8 ∧ ¬ (b8 = c) := ⟨hDs _ (by omega), by omega⟩
 have B5d := B5c.kp k6 (out_kp (Ds := Ds) (Dc := fun j => j = c) n5)
 have B8d := B8c.kp k6 (out_kp (Ds := Ds) (Dc := fun j => j = c) n8)
 have m5 := out_of hDD6 n5 B5c.lt
 have m8 := out_of hDD6 n8 B8c.lt
 have z6 := k6.size
 (refine s_mv ?_; refine s_ex ?_; refine s_ex ?_)
 refine AtR_go rfl (AtG_alloc fun b13 w7 hb13 e7 => ?_)
 have B13z : Blk w7 b13 38 (0, 0) z38 := e7.blk
 have k7 : Kp No w6 w7 := e7.kp (.inr (by omega))
 refine AtR_go rfl (G_skip (r_store_all (s := 33) (vs := prC q) rfl rfl B13z hq33 rfl (prC_one _)) fun w8 e8 => ?_)
 have B13 : Blk w8 b13 38 (0, 0) (prC q) := e8.blk
 have k8 : Kp No w6 w8 := k7.trans' (e8.kp (S := fun j => j = b13) (.inl rfl)) (by rintro j rfl; right; omega)
 clear e7 e8 B13z
 have z8 := k8.size
 have B5e := B5d.kp k8 fun h => h
 have B8e := B8d.kp k8 fun h => h
 have h8 := h6.kpn k8
 have l8d := B8d.lt
 have l5d := B5d.lt
 (refine s_as ?_; refine AtR_nil (At_seq ?_); refine At_region ?_)
 refine s_val (x_load_all rfl B13 hq33) ?_
 (refine s_fa ?_)
 refine AtR_go rfl (G_skip (r_storeN (cs := trC r (d : Int)) (vs := prC q) rfl rfl B5e hq33 (by rw [hl34]; omega) (prC_one _)) fun w9 e9 => ?_)
 rw [trC_lay hr hqw] at e9
 have B5f : Blk w9 b5 40 (0, 0) (trC q (d : Int)) := e9.blk
 have k9 : Kp (fun j => j = b5) w8 w9 := e9.kp (.inl rfl)
 have B8f := B8e.kp k9 (Ne.symm h58)
 have h9 := h8.kp k9 (by rintro j rfl; exact ⟨m5.1, m5.2, hngb _ (by omega)⟩)
 have hDw : ∀ j, Ds6 j ∨ Dc6 j → Ds j ∨ j = c ∨ w.heap.size ≤ j := fun j hj => (hDD6 j hj).imp id fun h => h.imp id fun h => by have := K5.size; omega
 have K9 : Kp (fun j => Ds j ∨ j = c) w w9 := (((K5.mono fun _ h => h.elim).trans k6).trans (k8.mono fun _ h => h.elim)).trans' k9 (by rintro j rfl; right; omega)
 have lc : w.heap.size ≤ c := by have := K4.size; omega
 clear e9 B5e B8e B5d B8d B5c B8c B5b B8b h8 h6 hch C5 k7 k8 k6 k5 k9 B13
 clear K5 k4
 (refine AtR_nil (At_seq (At_seq (At_region ?_))); refine s_mv ?_; refine s_ln ?_; refine s_mv ?_; refine AtR_nil (At_block ?_))
 refine At_while (fun k : Nat => [(5, .pointer (some ⟨b5, 0, none⟩)), (8, .pointer (some ⟨b8, 0, none⟩)), (12, .pointer (some ⟨c, 0, none⟩)), (14, .int .i64 ((((xN xs).take k).foldl (turn1 key name) (cut1 key name st r d n)).1.2.2 : Int)), (70, .slice ax xs.length cap), (71, .int .i64 (xs.length : Int)), (72, .int .i64 (k : Int))])
  (fun k w' => k ≤ xs.length ∧ Blk w' b5 40 (0, 0) (trC (((xN xs).take k).foldl (turn1 key name) (cut1 key name st r d n)).1.1 ((((xN xs).take k).foldl (turn1 key name) (cut1 key name st r d n)).1.2.1 : Int)) ∧ Blk w' b8 40 (0, 0) z40 ∧
   ∃ Ds5 Dc5, ChAt w' c g sp bo key name (((xN xs).take k).foldl (turn1 key name) (cut1 key name st r d n)).2 Ds5 Dc5 Dg ∧ (¬ Ds5 b5 ∧ ¬ Dc5 b5) ∧ (¬ Ds5 b8 ∧ ¬ Dc5 b8) ∧ (∀ j, Ds5 j ∨ Dc5 j → Ds j ∨ j = c ∨ w.heap.size ≤ j) ∧ (∀ j, (Db j ∨ blkOf ax j) → ¬ Ds5 j ∧ ¬ Dc5 j) ∧ Kp (fun j => Ds j ∨ j = c) w w') (fun k => xs.length - k) 0 ⟨rfl, rfl, rfl, by rw [List.take_zero, List.foldl_nil, hc1]; rfl, rfl, rfl, rfl, trivial⟩
  ⟨by omega, by rw [List.take_zero, List.foldl_nil, hc1]; exact B5f, B8f, Ds6, Dc6, by rw [List.take_zero, List.foldl_nil, hc1]; exact h9, m5, m8, hDw, fun j hj => by
   have hl : j < w.heap.size := hj.elim (fun h => (hdb j h).2) fun h => hxo.lt j h
   have hn : ¬ Ds j := hj.elim (fun h => (hdb j h).1) fun h => hax j h
   exact ⟨fun hd => (hDw j (.inl hd)).elim hn fun h => h.elim (fun h => by omega) fun h => by omega, fun hd => (hDw j (.inr hd)).elim hn fun h => h.elim (fun h => by omega) fun h => by omega⟩, K9⟩ ?_
 clear B5f B8f h9 m5 m8 hDw hDD6 K9 hok
 rintro i wa junk3 ⟨hi, B5, B8, Dsi, Dci, hA, m5, m8, hDi, hDx, Ki⟩ again
 have hzi := Ki.size
 have hfi : TFine (24 * (xN (xs.drop i)).length + 24) (((xN xs).take i).foldl (turn1 key name) (cut1 key name st r d n)) := by
  refine turns_fine (xs := (xN xs).take i) ?_ fun x hx => hokX x (List.mem_of_mem_take hx)
  refine hfine0.mono ?_
  have e1 : (xN (xs.drop i)).length = xs.length - i := by unfold xN; rw [List.length_map, List.length_drop]
  rw [List.length_take, hXn, e1]; omega
 by_cases hlt : i < xs.length
 ·have hsn := turns_snoc (key := key) (name := name) (s := cut1 key name st r d n) (k := i) (xs := xN xs) (by omega)
  have hXi : (xN xs)[i]'(by omega) = (xs[i].i.toNat, xs[i].b) := by simp [xN]
  rw [hXi] at hsn
  have hoX := hgood.2 _ (List.getElem_mem hlt)
  have hxat := hxs _ (List.getElem_mem hlt)
  have ho4 := hxo.kp Ki fun j hj hd => hd.elim (hax j hj) fun e => by have := hxo.lt j hj; omega
  obtain ⟨b0, sp0, rfl, _, _, hseg⟩ := own_in ho4 (by omega)
  obtain ⟨g1, g2⟩ := xC_get hlt
  have hsub : Seg wa b0 (0 + i * 2) [.int .i64 xs[i].i, .slice xs[i].a xs[i].b.length xs[i].cap] := fun j hj => by
   have h := hseg (i * 2 + j) (by rw [xC_length]; simp at hj; omega)
   rw [Nat.add_assoc, h]
   match j, hj with
   | 0, _ => exact g1
   | 1, _ => exact g2
  have hsi : SlE wa .u8 xs[i].a xs[i].b.length xs[i].cap (bs8 xs[i].b) Db := hxat.sl.kp Ki fun j hj hd => hd.elim (hdb j hj).1 fun e => by have := (hdb j hj).2; omega
  have hlen := hxat.len
  obtain ⟨xi, hxi⟩ : ∃ m : Nat, xs[i].i = m := ⟨xs[i].i.toNat, by have := hoX.1; omega⟩
  have hxi5 : xi < roomN 5 := by
    have h5r : roomN 5 = 537824 := rfl
    have := hoX.2
    omega
  rw [hxi] at hsub hsn
  rw [Int.toNat_natCast] at hsn
  generalize xs[i].a = xa at *
  generalize xs[i].cap = xcap at *
  generalize xs[i].b = xb at *
  generalize hsg : ((xN xs).take i).foldl (turn1 key name) (cut1 key name st r d n) = T at *
  generalize hsg2 : ((xN xs).take (i + 1)).foldl (turn1 key name) (cut1 key name st r d n) = T2 at *
  obtain ⟨⟨r2, d2, c2⟩, ch3⟩ := T
  simp only at B5 hA hfi ⊢
  obtain ⟨f1, f2, f3, f4⟩ := hfi
  simp only at f1 f2 f3 f4
  have hl342 := trC_length f2 (d2 : Int)
  (refine At_seq (At_region ?_); refine s_lss ?_; refine AtR_nil (At_seq ?_); refine At_cond_t rfl ?_; refine At_skip (At_seq (At_block (At_seq ?_))); refine At_region ?_)
  refine s_val (x_indexAddr (s := 2) rfl rfl (by omega) (by omega)) ?_
  rw [Int.toNat_natCast]
  refine s_val (x_load_segN rfl hsub rfl) ?_
  refine AtR_go rfl (AtG_alloc fun b16 wb hb16 eb => ?_)
  refine AtR_go rfl (G_skip (r_store_all (s := 2) (vs := [.int .i64 (xi : Int), .slice xa xb.length xcap]) rfl rfl eb.blk rfl rfl rfl) fun wc ec => ?_)
  have B16 : Blk wc b16 118 (0, 0) [.int .i64 (xi : Int), .slice xa xb.length xcap] := ec.blk
  have kc : Kp No wa wc := (eb.kp (S := No) (.inr (by omega))).trans' (ec.kp (S := fun j => j = b16) (.inl rfl)) (by rintro j rfl; right; omega)
  clear eb ec
  have B5c := B5.kp kc fun h => h
  have B8c := B8.kp kc fun h => h
  have hAc := hA.kpn kc
  have hsc := hsi.kpn kc
  have zc := kc.size
  have l5a := B5.lt
  have l8a := B8.lt
  have hdbw : ∀ j, Db j → j < w.heap.size := fun j hj => (hdb j hj).2
  by_cases hc2 : c2 = 0
  ·subst hc2
   have hT2 : T2 = turnP key name r2 d2 xi xb ch3 := by rw [hsn]; unfold turn1; rw [if_pos rfl]
   clear hsn
   (refine AtR_nil (At_seq (At_region ?_)); refine s_mv ?_; refine s_eql ?_; refine AtR_nil ?_; refine At_cond_t rfl ?_; refine At_region ?_; refine s_mv ?_)
   refine s_val (x_load_all rfl B5c hl342) ?_
   refine s_val (x_load_all rfl B16 rfl) ?_
   refine s_call x_call (turn_calls c g sp bo key name r2 d2 xi xb xa xcap ch3 _ hAc f2 f4 f3 hxi5 hlen hsc (fun j hj => ⟨hDx j (.inl hj), by have := hdbw j hj; omega⟩) (f1.mono (by omega))) ?_
   have hTf := turnP_fine (key := key) (name := name) (i := xi) (m := 0) (b := xb) f2 f4 f3 (f1.mono (by omega)) hxi5 hlen
   rw [← hT2] at hTf ⊢
   rintro _ wd ⟨rfl, Dsd, Dcd, hAd, hDd, kd⟩
   refine ⟨_, rfl, ?_⟩
   have B5d := B5c.kp kd (out_kp m5)
   have B8d := B8c.kp kd (out_kp m8)
   have p5 := out_of hDd m5 B5c.lt
   have p8 := out_of hDd m8 B8c.lt
   have hT34 := trC_length hTf.2.1 (T2.1.2.1 : Int)
   have zd := kd.size
   (refine s_mv ?_; refine s_ex ?_; refine s_ex ?_)
   refine AtR_go rfl (G_skip (r_store_all (s := 34) (vs := trC T2.1.1 (T2.1.2.1 : Int)) rfl rfl B5d hT34 hl342 (trC_one _ _)) fun we ee => ?_)
   have ke : Kp (fun j => j = b5) wd we := ee.kp (.inl rfl)
   (refine s_as ?_; refine AtR_nil (At_inBlock (At_region ?_)); refine s_ad ?_; refine s_mv ?_; refine AtR_nil ?_)
   have hDi2 : ∀ j, Dsd j ∨ Dcd j → Ds j ∨ j = c ∨ w.heap.size ≤ j := fun j hj => by
    rcases hDd j hj with h1 | h1 | h1
    ·exact hDi j (.inl h1)
    ·exact hDi j (.inr h1)
    ·right; right; omega
   refine again (i + 1) _ _ ⟨rfl, rfl, rfl, by rw [hsg2]; rfl, rfl, rfl, rfl, trivial⟩ ⟨hlt, by rw [hsg2]; exact ee.blk, B8d.kp ke (Ne.symm h58), Dsd, Dcd, by rw [hsg2]; exact hAd.kp ke (by rintro j rfl; exact ⟨p5.1, p5.2, hngb _ (by omega)⟩), p5, p8, hDi2, fun j hj => ?_, ?_⟩ (by omega)
   ·have hl : j < wa.heap.size := hj.elim (fun h => by have := hdbw j h; omega) fun h => by have := hxo.lt j h; omega
    exact out_of hDd (hDx j hj) (by omega)
   ·exact ((Ki.trans (kc.mono fun _ h => h.elim)).trans' kd fun j hj => (hDi j hj).elim (fun h => .inl (.inl h)) fun h => h.elim (fun h => .inl (.inr h)) .inr).trans' ke (by rintro j rfl; right; omega)
  ·have hT2 : T2 = ((r2, d2, c2), ch3) := by rw [hsn]; unfold turn1; rw [if_neg hc2]
   subst hT2
   (refine AtR_nil (At_seq (At_region ?_)); refine s_mv ?_; refine s_eql ?_; refine AtR_nil ?_; refine At_cond_f rfl ?_; refine At_skip (At_inBlock (At_region ?_)); refine s_ad ?_; refine s_mv ?_; refine AtR_nil ?_)
   exact again (i + 1) _ _ ⟨rfl, rfl, rfl, by rw [hsg2]; rfl, rfl, rfl, rfl, trivial⟩ ⟨hlt, by rw [hsg2]; exact B5c, B8c, Dsi, Dci, by rw [hsg2]; exact hAc, m5, m8, hDi, hDx, Ki.trans (kc.mono fun _ h => h.elim)⟩ (by omega)
 have hie : i = xs.length := by omega
 clear again
 have htk : (xN xs).take i = xN xs := List.take_of_length_le (by omega)
 rw [htk] at B5 hA hfi
 unfold turnV turnS turnT
 rw [htk]
 generalize (xN xs).foldl (turn1 key name) (cut1 key name st r d n) = T at *
 obtain ⟨⟨r2, d2, c2⟩, ch3⟩ := T
 simp only at B5 hA hfi ⊢
 obtain ⟨f1, f2, f3, f4⟩ := hfi
 simp only at f1 f2 f3 f4
 have hl342 := trC_length f2 (d2 : Int)
 have l8' := B8.lt
 (refine At_seq (At_region ?_); refine s_lss ?_; refine AtR_nil (At_seq ?_); refine At_cond_f rfl ?_; refine At_exit rfl ?_; refine At_seq (At_region ?_); refine s_mv ?_)
 refine s_val (x_load_all rfl B5 hl342) ?_
 (refine s_mv ?_)
 refine s_call x_call (end_calls c g sp bo key name ch3 r2 (d2 : Int) c2 _ hA f2 ⟨f3.gone, f3.saved⟩) ?_
 rintro _ wz ⟨rfl, hstz, kz⟩
 refine ⟨_, rfl, ?_⟩
 have B8z := B8.kp kz (out_kp m8)
 have hl8 : (if c2 = 0 then trC r2 (d2 : Int) else trC Pr.zero 0).length = 34 := by split; exact hl342; rfl
 have ho8 : (if c2 = 0 then trC r2 (d2 : Int) else trC Pr.zero 0).all (·.oneCell') = true := by
  split
  ·exact trC_one _ _
  ·rfl
 (refine s_ex ?_; refine s_ex ?_)
 refine AtR_go rfl (G_skip (r_store_all (s := 34) (by first | rfl | exact rfl) (by first | rfl | exact rfl) B8z hl8 rfl ho8) fun wy ey => ?_)
 (refine s_as ?_; refine AtR_nil ?_)
 have ky : Kp (fun j => j = b8) wz wy := ey.kp (.inl rfl)
 have hKall : Kp (fun j => Ds j ∨ j = c) w wz := Ki.trans' kz fun j hj => (hDi j hj).elim (fun h => .inl (.inl h)) fun h => h.elim (fun h => .inl (.inr h)) .inr
 have hK9 : Kp (fun j => Ds j ∨ w.heap.size ≤ j) w wy := (hKall.mono fun j hj => hj.imp id fun h => by omega).trans' ky (by rintro j rfl; right; omega)
 have hKD : Kp Ds w wy := Kp.trans' (Kp.refl Ds w) hK9 fun j hj => hj
 have hD9 : ∀ j, Dsi j → Ds j ∨ w.heap.size ≤ j := fun j hj => by
  rcases hDi j (.inl hj) with h1 | h1 | h1
  ·exact .inl h1
  ·right; omega
  ·exact .inr h1
 refine At_ret_cell2 (s := 34) Tryd.func64 rfl rfl ey.blk hl8 rfl (.inr ⟨hgood, rfl, Dsi, ⟨h.gr.kp hKD fun j hj => (h.sep j hj).1, hstz.kp ky (by rintro j hj rfl; exact m8.1 hj), fun j hj => ⟨fun hd => ?_, Nat.lt_of_lt_of_le (h.sep j hj).2 hKD.size⟩⟩, hD9, hKD⟩)
 rcases hD9 j hd with h4 | h4
 ·exact (h.sep j hj).1 h4
 ·have := (h.sep j hj).2; omega
end Go.Proofs.YtfngacepjcdlnaaDoor
namespace Go.Mt
open Go Go.Kx Go.Proofs.YtfngacepjcdlnaaDoor
theorem putSI_len1 (i : Int) (b : List UInt8) : ∀ (l : BiL) (s : BiL × Bool), (l.foldl (putSI i b) s).1.length + (if (l.foldl (putSI i b) s).2 = true then 0 else 1) ≤ s.1.length + (if s.2 = true then 0 else 1) + l.length
 | [], s => Nat.le_refl _
 | e :: l, s => by
  have h1 := putSI_len1 i b l (putSI i b s e)
  have h2 : (putSI i b s e).1.length + (if (putSI i b s e).2 = true then 0 else 1) ≤ s.1.length + (if s.2 = true then 0 else 1) + 1 := by
   obtain ⟨out, dn⟩ := s
   unfold putSI
   cases dn <;> by_cases h3 : i ≤ e.1 <;> by_cases h4 : e.1 ≠ i <;> simp [h3, h4] <;> omega
  rw [List.foldl_cons, List.length_cons]
  omega
theorem putFI_len1 (l : BiL) (i : Int) (b : List UInt8) : (putFI l i b).length ≤ l.length + 1 := by
 have h := putSI_len1 i b l ([], false)
 unfold putFI
 simp only [List.length_nil] at h
 split
 ·rename_i h2
  rw [if_pos h2] at h
  simp at h
  omega
 ·rename_i h2
  rw [if_neg h2] at h
  rw [List.length_append, List.length_singleton]
  simp at h
  omega
end Go.Mt
namespace Go.Proofs.YtfngacepjcdlnaaDoor
open Go Go.Kx Go.Kr Go.Mt
def wouIF (n : Int) (e : Int × List UInt8) : Bool := decide (e.1 ≠ n)
set_option maxRecDepth 100000 in
set_option maxHeartbeats 8000000 in
theorem wouI_calls (l : BiL) (n : Int) (a : Option Addr) (cap : Nat) (w : World) (ho : Own w 174 2 a l.length cap (biC l)) (hl : l.length ≤ 100000) :
  Calls Tryd.prog 63 #[.slice a l.length cap, .int .i64 n] w fun e w' => ∃ a' cap', e = .returned (.slice a' (l.filter (wouIF n)).length cap') ∧ Own w' 174 2 a' (l.filter (wouIF n)).length cap' (biC (l.filter (wouIF n))) ∧ (∀ j, blkOf a' j → w.heap.size ≤ j) ∧ Kp No w w' := by
 refine calls_at (n := 28) Tryd.func63 rfl rfl (by simp) ?_
 (refine At_seq (At_region ?_); refine s_as ?_; refine AtR_nil (At_seq (At_region ?_)); refine s_as ?_; refine AtR_nil (At_seq (At_seq (At_region ?_))); refine s_as ?_; refine AtR_nil (At_block ?_))
 refine At_while (fun s : Nat × Option Addr × Nat => [(0, .slice a l.length cap), (1, .int .i64 n), (5, .slice s.2.1 ((l.take s.1).filter (wouIF n)).length s.2.2), (6, .int .i64 (s.1 : Int))])
  (fun s w' => s.1 ≤ l.length ∧ Own w' 174 2 s.2.1 ((l.take s.1).filter (wouIF n)).length s.2.2 (biC ((l.take s.1).filter (wouIF n))) ∧ (∀ j, blkOf s.2.1 j → w.heap.size ≤ j) ∧ Kp No w w') (fun s => l.length - s.1) (0, none, 0) ⟨rfl, rfl, rfl, rfl, trivial⟩
  ⟨by omega, Own.nil _ _ _, fun j hj => by simp [blkOf] at hj, Kp.refl _ _⟩ ?_
 rintro ⟨i, ai, ci⟩ w1 junk ⟨hi, hoi, hfr, K⟩ again
 simp only at hi hoi hfr again ⊢
 by_cases hlt : i < l.length
 ·have ho1 := ho.kp K fun _ _ h => h
  obtain ⟨b, sp, rfl, _, _, hseg⟩ := own_in ho1 (by omega)
  obtain ⟨g1, g2⟩ := biC_get hlt
  have hsub : Seg w1 b (0 + i * 2) [.int .i64 l[i].1, strV l[i].2] := fun j hj => by
   have h := hseg (i * 2 + j) (by rw [biC_length]; simp at hj; omega)
   rw [Nat.add_assoc, h]
   match j, hj with
   | 0, _ => exact g1
   | 1, _ => exact g2
  have hsn : (l.take (i + 1)).filter (wouIF n) = (l.take i).filter (wouIF n) ++ if wouIF n l[i] = true then [l[i]] else [] := by
   rw [List.take_succ_eq_append_getElem hlt, List.filter_append]
   congr 1
   by_cases h : wouIF n l[i] = true
   ·rw [if_pos h, List.filter_cons_of_pos h]; rfl
   ·rw [if_neg h, List.filter_cons_of_neg h]; rfl
  have hfl : ((l.take i).filter (wouIF n)).length ≤ 100000 := Nat.le_trans (List.length_filter_le _ _) (by rw [List.length_take]; omega)
  (refine At_seq (At_seq (At_region ?_)); refine s_mv ?_; refine s_mv ?_; refine s_ln ?_; refine s_lss ?_; refine AtR_nil ?_; refine At_cond_t rfl ?_; refine At_skip (At_seq (At_block (At_seq (At_region ?_)))); refine s_mv ?_; refine s_mv ?_)
  refine s_val (x_indexAddr (s := 2) rfl rfl (by omega) (by omega)) ?_
  rw [Int.toNat_natCast]
  (refine s_fa ?_)
  refine s_val (x_load_seg (off := 0) (j := i * 2) (by first | rfl | exact congrArg (fun o => Value.pointer (some ⟨b, o, none⟩)) (by omega)) hseg g1) ?_
  by_cases he : l[i].1 ≠ n
  ·have hk : wouIF n l[i] = true := decide_eq_true he
   rw [if_pos hk] at hsn
   (refine s_mv ?_; refine s_neq ?_; refine AtR_nil ?_; refine At_cond_t rfl ?_; refine At_region ?_; refine s_mv ?_; refine s_mv ?_; refine s_mv ?_)
   refine s_val (x_indexAddr (s := 2) rfl rfl (by omega) (by omega)) ?_
   rw [Int.toNat_natCast]
   refine s_val (x_load_segN rfl hsub rfl) ?_
   refine AtR_go rfl (G_val (r_buildSliceA (s := 2) (z := .agg z174.toArray) rfl (by rfl) (by simp [Value.cells, z174])) ?_)
   rintro _ w2 ⟨b2, rfl, hb2, e2⟩
   have B2 : Blk w2 b2 174 (0, 0) [.int .i64 l[i].1, strV l[i].2] := e2.blk
   have k2 : Kp No w1 w2 := e2.kp (.inr (by omega))
   clear e2
   have ho2 := hoi.kp k2 fun _ _ h => h
   have hsrc : Src Tryd.prog 2 102 (.slice (some ⟨b2, 0, none⟩) 1 1) 1 [.int .i64 l[i].1, strV l[i].2] w2 :=
    Src.ofSlice w2 (e' := 174) (by exact (inferInstance : TU Tryd.prog 102 (.slice 174)).h) ⟨b2, 0, none⟩ 1 1 _ (by rfl) (fun j u hj => by rw [add_none, Nat.zero_add, B2.cell, hj]) (fun u hu => by simp at hu; rcases hu with rfl | rfl <;> rfl)
   refine AtR_go rfl (AtG_append (tx := 102) (s := 2) rfl rfl ho2 hsrc (by simp [Value.cells, z174]) (by omega) (by simp only [maxLen]; omega) (by omega) fun a3 c3 w3 ho3 k3 hf3 => ?_)
   have k13 : Kp No w w3 := (K.trans k2).trans' k3 fun j hj => .inr (hfr j hj)
   (refine s_as ?_; refine AtR_nil (At_inBlock (At_region ?_)); refine s_mv ?_; refine s_ad ?_; refine s_as ?_; refine AtR_nil ?_)
   refine again (i + 1, a3, c3) _ _ ⟨rfl, rfl, by simp only [hsn, List.length_append]; rfl, rfl, trivial⟩ ⟨hlt, ?_, fun j hj => ?_, k13⟩ (by simp only; omega)
   ·simp only
    rw [hsn, List.length_append, biC_app]
    exact ho3
   ·rcases hf3 with rfl | ⟨b', rfl, hb⟩
    ·exact hfr j hj
    ·simp [blkOf] at hj; have := (K.trans k2).size; omega
  ·have hk : ¬ wouIF n l[i] = true := fun h => he (of_decide_eq_true h)
   rw [if_neg hk, List.append_nil] at hsn
   (refine s_mv ?_; refine s_neq ?_; refine AtR_nil ?_; refine At_cond_f rfl ?_; refine At_skip (At_inBlock (At_region ?_)); refine s_mv ?_; refine s_ad ?_; refine s_as ?_; refine AtR_nil ?_)
   exact again (i + 1, ai, ci) _ _ ⟨rfl, rfl, by simp only [hsn]; rfl, rfl, trivial⟩ ⟨hlt, by simp only; rw [hsn]; exact hoi, hfr, K⟩ (by simp only; omega)
 have hie : i = l.length := by omega
 clear again
 subst hie
 rw [List.take_length] at hoi ⊢
 (refine At_seq (At_seq (At_region ?_)); refine s_mv ?_; refine s_mv ?_; refine s_ln ?_; refine s_lss ?_; refine AtR_nil ?_; refine At_cond_f rfl ?_; refine At_exit rfl ?_; refine At_seq (At_region ?_); refine s_mv ?_; refine s_as ?_; refine AtR_nil ?_)
 refine At_ret1 Tryd.func63 rfl (by conv => lhs; whnf) ?_
 exact ⟨ai, ci, rfl, hoi, hfr, K⟩
theorem toI_wou (l : BlL) (n : Nat) : (toI l).filter (wouIF (n : Int)) = toI (l.filter (wouLF (n : Int))) := by
 unfold toI
 rw [List.filter_map]
 rfl
theorem built118s (i : Int) (a : Option Addr) (l c : Nat) : Tryd.prog.built 118 [(0, .int .i64 i), (1, .slice a l c)] = some [.int .i64 i, .slice a l c].toArray := by kernel_rfl
theorem built118n (i : Int) : Tryd.prog.built 118 [(0, .int .i64 i)] = some [.int .i64 i, .slice none 0 0].toArray := by kernel_rfl
end Go.Proofs.YtfngacepjcdlnaaDoor
