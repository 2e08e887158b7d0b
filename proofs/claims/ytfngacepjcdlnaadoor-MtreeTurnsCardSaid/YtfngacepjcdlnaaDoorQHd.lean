/- The reference's hmac. | The reference's Derive. | Octets: a copy, a text with noughts behind, two texts xored. | Octets: two texts xored. | An octet again and again. -/
import Derived.Test.YtfngacepjcdlnaaDoorQHc
import Derived.Laws.Cover3
set_option linter.unusedVariables false
namespace Go.Kx
open Go
section
variable {P : Program} {f : Fm} {n : Nat} {R : Ending → World → Prop} {k : List Item} {env : Env} {w : World} {dst : Option Tmp} {d : Tmp} {ty : TypeId} {pos : String} {aft : Array Edge} {g : Option (Nat × Bool)} {pre rest : List Oper}
theorem x_len_str {T : TypeId} {x : Operand} {l : List UInt8} [hT : TU P T .string] (hx : ev n env x = strV l) :
  Run P n env ⟨dst, .call ⟨.builtin .len, #[x], #[T]⟩, ty, pos, aft, g⟩ w (.ok (.value (.int .i64 (l.length : Int))) w) := by
 have h := x_len_string (P := P) (w := w) (dst := dst) (ty := ty) (pos := pos) (aft := aft) (g := g) (T := T) hx
 simpa [ByteArray.size] using h
theorem s_lns {T : TypeId} {x : Operand} {l : List UInt8} [TU P T .string] (h : AtR P f n R (⟨some d, .call ⟨.builtin .len, #[x], #[T]⟩, ty, pos, aft, none⟩ :: pre) rest k (upd env d (.int .i64 (l.length : Int))) w) (hx : ev n env x = strV l := by exact rfl) :
  AtR P f n R pre (⟨some d, .call ⟨.builtin .len, #[x], #[T]⟩, ty, pos, aft, none⟩ :: rest) k env w := s_val (x_len_str hx) h
theorem x_index_str {T : TypeId} {x ix : Operand} {kk : IntKind} {i : Nat} {l : List UInt8} [hT : TU P T .string] (hx : ev n env x = strV l) (hi : ev n env ix = .int kk (i : Int)) (h : i < l.length) :
  Run P n env ⟨dst, .index T x ix, ty, pos, aft, g⟩ w (.ok (.value (.int .u8 (ub (l.getD i 0)))) w) := by
 have e : (⟨l.toArray⟩ : ByteArray)[i]? = some (l.getD i 0) := by
  have hs : i < (⟨l.toArray⟩ : ByteArray).size := by simpa [ByteArray.size] using h
  rw [getElem?_pos (⟨l.toArray⟩ : ByteArray) i hs]
  simp [ByteArray.getElem_eq_getElem_data, List.getD, h]
 unfold Run
 simp [execOp, hx, hi, strV, Instr.index, asIntOf, run_underlying hT.h, e, ub]
theorem r_conv_sb {S T E : TypeId} {x : Operand} {l : List UInt8} [hS : TU P S .string] [hT : TU P T (.slice E)] [hE : TU P E (.int .u8)] (hx : ev n env x = strV l) (hl : l.length ≤ maxLen) :
  ∃ v w', Run P n env ⟨dst, .convert S T x, ty, pos, aft, g⟩ w (.ok (.value v) w') ∧ ∃ b cap, v = .slice (some ⟨b, 0, none⟩) l.length cap ∧ b = w.heap.size ∧ Sl w' .u8 (some ⟨b, 0, none⟩) l.length cap (bs8 l) ∧ Kp No w w' := by
 have hr := run_bytes_of_string (P := P) w S T E ⟨l.toArray⟩ hS.h hT.h hE.h
 have hsz : (⟨l.toArray⟩ : ByteArray).size = l.length := by simp [ByteArray.size]
 rw [hsz] at hr
 have hge := grownCap_ge w l.length 0 E
 have hle := grownCap_le_maxLen w l.length 0 E hl
 obtain ⟨W', hW, e⟩ : ∃ W', W' = w.drew.alloc (.cells (bytesRow ⟨l.toArray⟩ (grownCap w l.length 0 E)) E ((bytesRow ⟨l.toArray⟩ (grownCap w l.length 0 E)).size, (bytesRow ⟨l.toArray⟩ (grownCap w l.length 0 E)).size + 1)) ∧ Eff w.drew W' w.heap.size (.cells (bytesRow ⟨l.toArray⟩ (grownCap w l.length 0 E)) E ((bytesRow ⟨l.toArray⟩ (grownCap w l.length 0 E)).size, (bytesRow ⟨l.toArray⟩ (grownCap w l.length 0 E)).size + 1)) := ⟨_, rfl, eff_push w.drew _⟩
 rw [← hW] at hr
 have hrow : bytesRow ⟨l.toArray⟩ (grownCap w l.length 0 E) = (ints .u8 (bs8 l) ++ List.replicate (grownCap w l.length 0 E - l.length) (Value.int .u8 0)).toArray := by
  apply Array.ext'
  simp [bytesRow, ints, bs8, ub, hsz]
 refine ⟨_, _, ?_, w.heap.size, grownCap w l.length 0 E, rfl, rfl, ⟨by simp, hge, by simpa [maxLen] using hle, .inr ⟨_, 0, rfl, e.lt, fun j hj => ?_⟩⟩, ⟨e.os, e.tape, e.output, e.size, fun j _ hl => e.other j (Nat.ne_of_lt hl) hl⟩⟩
 ·unfold Run
  simp only [execOp, hx, strV, Sem.run_bind, hr, Result.andThen_ok, Sem.run_pure]
 ·have hB : Blk W' w.heap.size E ((bytesRow ⟨l.toArray⟩ (grownCap w l.length 0 E)).size, (bytesRow ⟨l.toArray⟩ (grownCap w l.length 0 E)).size + 1) (ints .u8 (bs8 l) ++ List.replicate (grownCap w l.length 0 E - l.length) (Value.int .u8 0)) := by
   unfold Blk
   rw [← hrow]
   exact e.here
  rw [Nat.zero_add]
  refine (hB.cell j).trans ?_
  rw [List.getElem?_append_left (by simpa using hj)]
theorem src_str {T : TypeId} {l : List UInt8} (hT : P.underlying T = some .string) (w : World) : Src P 1 T (strV l) l.length (ints .u8 (bs8 l)) w := by
 have h := Src.ofString w hT ⟨l.toArray⟩
 have e : byteCells ⟨l.toArray⟩ = ints .u8 (bs8 l) := by simp [byteCells, ints, bs8, ub]
 have hsz : (⟨l.toArray⟩ : ByteArray).size = l.length := by simp [ByteArray.size]
 rw [e, hsz] at h
 exact h
end
end Go.Kx
namespace Go.Proofs.YtfngacepjcdlnaaDoor
open Go Go.Kx
def padX (k : List UInt8) (c : UInt8) : List UInt8 := (List.range 128).map fun i => k.getD i 0 ^^^ c
def keyOf (k : List UInt8) : List UInt8 := if 128 < k.length then sha k else k
def hmac (k t : List UInt8) : List UInt8 := sha (padX (keyOf k) 92 ++ sha (padX (keyOf k) 54 ++ t))
theorem hmac_length (k t : List UInt8) : (hmac k t).length = 64 := sha_length _
theorem padX_length (k : List UInt8) (c : UInt8) : (padX k c).length = 128 := by simp [padX]
def padTo (k : List UInt8) (c : UInt8) (i : Nat) : List UInt8 := (List.range i).map fun i => k.getD i 0 ^^^ c
theorem padTo_length (k : List UInt8) (c : UInt8) (i : Nat) : (padTo k c i).length = i := by simp [padTo]
theorem padTo_snoc (k : List UInt8) (c : UInt8) (i : Nat) : padTo k c (i + 1) = padTo k c i ++ [k.getD i 0 ^^^ c] := by simp [padTo, List.range_succ]
set_option maxRecDepth 100000 in
set_option maxHeartbeats 4000000 in
theorem hmacR_calls (kx tx : List UInt8) (ak : Option Addr) (lenk capk : Nat) (at' : Option Addr) (lent capt : Nat) (w : World) {D D' : Nat → Prop} (hk : SlE w .u8 ak lenk capk (bs8 kx) D) (ht : SlE w .u8 at' lent capt (bs8 tx) D')
  (hbk : lenk ≤ 35184372088832) (hbt : lent ≤ 35184372088000) :
  Calls Tryd.prog 109 #[.slice ak lenk capk, .slice at' lent capt] w fun e w' => e = .returned (strV (hmac kx tx)) ∧ Kp No w w' := by
 have hlk := hk.len_eq
 have hlt := ht.len_eq
 simp only [bs8_length] at hlk hlt
 subst hlk
 subst hlt
 refine calls_at (n := 47) Tryd.func109 rfl rfl (by simp) ?_
 (refine At_seq (At_region ?_); refine s_as ?_; refine AtR_nil (At_seq (At_region ?_)); refine s_mv ?_)
 refine s_val (x_conv_bs rfl hk) ?_
 (refine s_as ?_; refine AtR_nil (At_seq (At_seq (At_region ?_))); refine s_mv ?_; refine s_ln ?_)
 refine s_val (x_gtr rfl rfl) ?_
 generalize hd : decide ((kx.length : Int) > 128) = bv
 (refine AtR_nil ?_)
 refine At_meet (σ := Unit) (fun _ => [(1, .slice at' tx.length capt), (5, strV (keyOf kx))]) (fun _ w' => Kp No w w') ?_ ?_
 ·rintro _ w1 junk K1
  (refine At_seq (At_region ?_); refine s_as ?_; refine s_as ?_; refine AtR_nil (At_seq (At_seq (At_region ?_))); refine s_as ?_; refine AtR_nil (At_block ?_))
  refine At_while (fun s : Nat × (Option Addr × Nat) × (Option Addr × Nat) => [(1, .slice at' tx.length capt), (5, strV (keyOf kx)), (6, .slice s.2.1.1 s.1 s.2.1.2), (7, .slice s.2.2.1 s.1 s.2.2.2), (8, .int .i64 (s.1 : Int))])
   (fun s w' => s.1 ≤ 128 ∧ Own w' 5 1 s.2.1.1 s.1 s.2.1.2 (ints .u8 (bs8 (padTo (keyOf kx) 54 s.1))) ∧ Own w' 5 1 s.2.2.1 s.1 s.2.2.2 (ints .u8 (bs8 (padTo (keyOf kx) 92 s.1))) ∧ (∀ j, blkOf s.2.1.1 j → w.heap.size ≤ j) ∧ (∀ j, blkOf s.2.2.1 j → w.heap.size ≤ j) ∧
    (∀ j, blkOf s.2.1.1 j → ¬ blkOf s.2.2.1 j) ∧ Kp No w w') (fun s => 128 - s.1) (0, (none, 0), (none, 0)) ⟨rfl, rfl, rfl, rfl, rfl, trivial⟩
   ⟨by omega, Own.nil _ _ _, Own.nil _ _ _, fun j hj => by simp [blkOf] at hj, fun j hj => by simp [blkOf] at hj, fun j hj => by simp [blkOf] at hj, K1⟩ ?_
  clear K1
  rintro ⟨i, ⟨ai, ci⟩, ⟨ao, co⟩⟩ w1 junk2 ⟨hi, hoi, hoo, hfi, hfo, hio, K⟩ again
  simp only at hi hoi hoo hfi hfo hio again ⊢
  by_cases h128 : i < 128
  ·(refine At_seq (At_seq (At_region ?_)); refine s_mv ?_; refine s_lss ?_; refine AtR_nil ?_; refine At_cond_t rfl ?_; refine At_skip (At_seq (At_block (At_seq (At_region ?_)))); refine s_as ?_; refine AtR_nil (At_seq (At_seq (At_region ?_))); refine s_mv ?_; refine s_mv ?_; refine s_lns ?_)
   refine s_val (x_lss rfl rfl) ?_
   generalize hd2 : decide ((i : Int) < ((keyOf kx).length : Int)) = bv2
   (refine AtR_nil ?_)
   refine At_meet (σ := Unit) (fun _ => [(1, .slice at' tx.length capt), (5, strV (keyOf kx)), (6, .slice ai i ci), (7, .slice ao i co), (8, .int .i64 (i : Int)), (9, .int .u8 (ub ((keyOf kx).getD i 0)))]) (fun _ w' => w' = w1) ?_ ?_
   ·rintro _ w1 junk3 rfl
    have hlo := hoo.lt
    have hli := hoi.lt
    (refine At_seq (At_region ?_); refine s_mv ?_; refine s_mv ?_)
    refine s_val (x_xorB (b := 54) rfl rfl) ?_
    refine AtR_go rfl (AtG_buildSlice1 (ops := [_]) rfl rfl (by omega) rfl rfl rfl fun b2 w2 hb2 e2 => ?_)
    have B2 : Blk w2 b2 5 (0, 0) (ints .u8 (bs8 [(keyOf kx).getD i 0 ^^^ 54])) := e2.blk
    have hoi2 := hoi.kp (e2.kp (S := No) (.inr (by omega))) (fun _ _ => id)
    have hoo2 := hoo.kp (e2.kp (S := No) (.inr (by omega))) (fun _ _ => id)
    have K2 := K.trans (e2.kp (.inr (by omega)))
    have hz2 := e2.size
    clear e2 hoi hoo K
    refine AtR_go rfl (AtG_append (tx := 31) rfl rfl hoi2 ((B2.sl (m := 1) rfl (by omega)).src (T := 31) rfl) rfl (by omega) (by simp only [maxLen]; omega) (by omega) fun a3 c3 w3 ho3 k3 hfr3 => ?_)
    have hoo3 := hoo2.kp k3 (fun j hj c => hio j c hj)
    have K3 := K2.trans' k3 (fun j hj => .inr (hfi j hj))
    have hf3 : ∀ j, blkOf a3 j → w.heap.size ≤ j := by
     rcases hfr3 with rfl | ⟨b', rfl, hb'⟩
     ·exact hfi
     ·intro j hj; simp [blkOf] at hj; have := K2.size; omega
    have hio3 : ∀ j, blkOf a3 j → ¬ blkOf ao j := by
     rcases hfr3 with rfl | ⟨b', rfl, hb'⟩
     ·exact hio
     ·intro j hj c; simp [blkOf] at hj; have := hlo j c; omega
    have hl3 := ho3.lt
    clear k3 hfr3 hoo2 hoi2 K2
    (refine s_as ?_; refine AtR_nil (At_region ?_); refine s_mv ?_; refine s_mv ?_)
    refine s_val (x_xorB (b := 92) rfl rfl) ?_
    refine AtR_go rfl (AtG_buildSlice1 (ops := [_]) rfl rfl (by omega) rfl rfl rfl fun b4 w4 hb4 e4 => ?_)
    have B4 : Blk w4 b4 5 (0, 0) (ints .u8 (bs8 [(keyOf kx).getD i 0 ^^^ 92])) := e4.blk
    have ho4 := ho3.kp (e4.kp (S := No) (.inr (by omega))) (fun _ _ => id)
    have hoo4 := hoo3.kp (e4.kp (S := No) (.inr (by omega))) (fun _ _ => id)
    have K4 := K3.trans (e4.kp (.inr (by omega)))
    have hz4 := e4.size
    clear e4 ho3 hoo3 K3
    refine AtR_go rfl (AtG_append (tx := 31) rfl rfl hoo4 ((B4.sl (m := 1) rfl (by omega)).src (T := 31) rfl) rfl (by omega) (by simp only [maxLen]; omega) (by omega) fun a5 c5 w5 ho5 k5 hfr5 => ?_)
    have ho6 := ho4.kp k5 (fun j hj c => hio3 j hj c)
    have K5 := K4.trans' k5 (fun j hj => .inr (hfo j hj))
    have hf5 : ∀ j, blkOf a5 j → w.heap.size ≤ j := by
     rcases hfr5 with rfl | ⟨b', rfl, hb'⟩
     ·exact hfo
     ·intro j hj; simp [blkOf] at hj; have := K4.size; omega
    have hio5 : ∀ j, blkOf a3 j → ¬ blkOf a5 j := by
     rcases hfr5 with rfl | ⟨b', rfl, hb'⟩
     ·exact hio3
     ·intro j hj c; simp [blkOf] at c; have := hl3 j hj; omega
    (refine s_as ?_; refine AtR_nil (At_inBlock (At_region ?_)); refine s_mv ?_; refine s_ad ?_; refine s_as ?_; refine AtR_nil ?_)
    refine again (i + 1, (a3, c3), (a5, c5)) _ _ ⟨rfl, rfl, rfl, rfl, rfl, trivial⟩ ⟨h128, own_eq ho6 ?_ rfl, own_eq ho5 ?_ rfl, hf3, hf5, hio5, K5⟩ (by simp only; omega)
    ·rw [padTo_snoc]; simp [ints, bs8]
    ·rw [padTo_snoc]; simp [ints, bs8]
   ·intro join
    cases bv2 with
    | true =>
     have hlt : i < (keyOf kx).length := by have := of_decide_eq_true hd2; omega
     (refine At_cond_t rfl ?_; refine At_region ?_; refine s_mv ?_; refine s_mv ?_)
     refine s_val (x_index_str rfl rfl hlt) ?_
     (refine s_as ?_; refine AtR_nil ?_)
     exact join () _ _ ⟨rfl, rfl, rfl, rfl, rfl, rfl, trivial⟩ rfl
    | false =>
     have hlt := of_decide_eq_false hd2
     (refine At_cond_f rfl ?_; refine At_skip ?_)
     refine join () _ _ ⟨rfl, rfl, rfl, rfl, rfl, ?_, trivial⟩ rfl
     rw [show (keyOf kx).getD i 0 = 0 by simp [List.getD, show (keyOf kx).length ≤ i by omega]]
     rfl
  have hie : i = 128 := by omega
  subst hie
  clear again
  have ht1 := ht.kpn K
  (refine At_seq (At_seq (At_region ?_)); refine s_mv ?_; refine s_lss ?_; refine AtR_nil ?_; refine At_cond_f rfl ?_; refine At_exit rfl ?_; refine At_seq (At_region ?_); refine s_mv ?_; refine s_mv ?_)
  refine AtR_go rfl (AtG_append (tx := 31) rfl rfl hoi (ht1.src (T := 31) rfl) rfl (by omega) (by simp only [maxLen]; omega) (by omega) fun a2 c2 w2 ho2 k2 hfr2 => ?_)
  have hoo2 := hoo.kp k2 (fun j hj c => hio j c hj)
  have K2 := K.trans' k2 (fun j hj => .inr (hfi j hj))
  have ho2' : Own w2 5 1 a2 (128 + tx.length) c2 (ints .u8 (bs8 (padX (keyOf kx) 54 ++ tx))) := own_eq ho2 (by simp [ints, bs8, padTo, padX]) rfl
  skip
  refine s_call x_call (sumR_calls (padX (keyOf kx) 54 ++ tx) a2 _ c2 _ (D := fun _ => True) (ho2'.sl.e fun _ _ => trivial) (by omega)) ?_
  rintro _ w3 ⟨rfl, k3⟩
  refine ⟨_, rfl, ?_⟩
  have hoo3 := hoo2.kp k3 (fun _ _ => id)
  have hsl := sha_length (padX (keyOf kx) 54 ++ tx)
  (refine s_as ?_; refine AtR_nil (At_seq (At_region ?_)); refine s_mv ?_; refine s_mv ?_)
  refine AtR_go rfl (AtG_append (tx := 9) rfl rfl hoo3 (src_str (T := 9) rfl _) rfl (by omega) (by simp only [maxLen]; omega) (by omega) fun a4 c4 w4 ho4 k4 hfr4 => ?_)
  have ho4' : Own w4 5 1 a4 (128 + (sha (padX (keyOf kx) 54 ++ tx)).length) c4 (ints .u8 (bs8 (padX (keyOf kx) 92 ++ sha (padX (keyOf kx) 54 ++ tx)))) := own_eq ho4 (by simp [ints, bs8, padTo, padX]) rfl
  skip
  refine s_call x_call (sumR_calls _ a4 _ c4 _ (D := fun _ => True) (ho4'.sl.e fun _ _ => trivial) (by omega)) ?_
  rintro _ w5 ⟨rfl, k5⟩
  refine ⟨_, rfl, ?_⟩
  (refine s_as ?_; refine AtR_nil ?_)
  refine At_ret1 Tryd.func109 rfl (by conv => lhs; whnf) ?_
  exact ⟨rfl, ((K2.trans k3).trans' k4 (fun j hj => .inr (hfo j hj))).trans k5⟩
 ·intro join
  cases bv with
  | true =>
   have h128 : 128 < kx.length := by have := of_decide_eq_true hd; omega
   have e : keyOf kx = sha kx := by rw [keyOf, if_pos h128]
   (refine At_cond_t rfl ?_; refine At_region ?_; refine s_mv ?_)
   refine s_call x_call (sumR_calls kx ak _ capk _ hk hbk) ?_
   rintro _ w1 ⟨rfl, k1⟩
   refine ⟨_, rfl, ?_⟩
   (refine s_as ?_; refine AtR_nil ?_)
   exact join () _ _ ⟨rfl, by rw [e]; rfl, trivial⟩ k1
  | false =>
   have h128 : ¬ 128 < kx.length := by have := of_decide_eq_false hd; omega
   have e : keyOf kx = kx := by rw [keyOf, if_neg h128]
   (refine At_cond_f rfl ?_; refine At_skip ?_)
   exact join () _ _ ⟨rfl, by rw [e]; rfl, trivial⟩ (Kp.refl _ _)
end Go.Proofs.YtfngacepjcdlnaaDoor
namespace Go.Kx
open Go
section
variable {P : Program} {n : Nat} {env : Env} {w : World} {dst : Option Tmp} {ty : TypeId} {pos : String} {aft : Array Edge} {g : Option (Nat × Bool)}
theorem x_slice_str_h {T : TypeId} {x hi : Operand} {kk : IntKind} {m : Nat} {l : List UInt8} [hT : TU P T .string] (hx : ev n env x = strV l) (hh : ev n env hi = .int kk (m : Int)) (h : m ≤ l.length) :
  Run P n env ⟨dst, .slice T x none (some hi) none, ty, pos, aft, g⟩ w (.ok (.value (strV (l.take m))) w) := by
 have hsz : (⟨l.toArray⟩ : ByteArray).size = l.length := by simp [ByteArray.size]
 have hb : ∀ c, (Instr.sliceBound (.int kk (m : Int)) l.length c).run P w = .ok m w := fun c => by
  have := run_sliceBound (P := P) (w := w) kk (m : Int) l.length c (by omega) (by omega)
  simpa using this
 have e : (⟨l.toArray⟩ : ByteArray).extract 0 m = ⟨(l.take m).toArray⟩ := by
  apply ByteArray.ext
  simp [ByteArray.data_extract]
 unfold Run
 simp [execOp, hx, hh, strV, Instr.sliceAt, Instr.slice, run_underlying hT.h, Instr.sliceBounds, hb, hsz, e]
end
end Go.Kx
namespace Go.Proofs.YtfngacepjcdlnaaDoor
open Go Go.Kx
def label : List UInt8 := [116, 117, 114, 110, 107, 101, 121, 0]
def drv (k : List UInt8) (c : UInt8) (info : List UInt8) : Nat → List UInt8 × List UInt8
 | 0 => ([], [])
 | i + 1 => ((drv k c info i).1 ++ hmac k ((drv k c info i).2 ++ label ++ [c] ++ info ++ [UInt8.ofNat (i + 1)]), hmac k ((drv k c info i).2 ++ label ++ [c] ++ info ++ [UInt8.ofNat (i + 1)]))
theorem drv_length (k : List UInt8) (c : UInt8) (info : List UInt8) : ∀ i, (drv k c info i).1.length = 64 * i ∧ (drv k c info i).2.length ≤ 64
 | 0 => ⟨rfl, by simp [drv]⟩
 | i + 1 => by
  have h := (drv_length k c info i).1
  have h2 := hmac_length k ((drv k c info i).2 ++ label ++ [c] ++ info ++ [UInt8.ofNat (i + 1)])
  refine ⟨?_, ?_⟩
  ·rw [drv, List.length_append, h, h2]; omega
  ·rw [drv, h2]; omega
def derive (m : List UInt8) (c : UInt8) (info : List UInt8) (n : Nat) : List UInt8 := (drv (hmac (List.replicate 64 0) m) c info ((n + 63) / 64)).1.take n
theorem derive_length (m : List UInt8) (c : UInt8) (info : List UInt8) (n : Nat) : (derive m c info n).length = n := by
 rw [derive, List.length_take, (drv_length _ _ _ _).1]; omega
set_option maxRecDepth 100000 in
theorem sealR_calls (bo : Nat) {fz : Nat × Nat} {cs : List Value} (kx tx : List UInt8) (ak : Option Addr) (lenk capk : Nat) (at' : Option Addr) (lent capt : Nat) (w : World) {D D' : Nat → Prop} (hO : Blk w bo 145 fz (.bool false :: cs)) (hk : SlE w .u8 ak lenk capk (bs8 kx) D) (ht : SlE w .u8 at' lent capt (bs8 tx) D')
  (hbk : lenk ≤ 35184372088832) (hbt : lent ≤ 35184372088000) :
  Calls Tryd.prog 77 #[.pointer (some ⟨bo, 0, none⟩), .slice ak lenk capk, .slice at' lent capt] w fun e w' => e = .returned (strV (hmac kx tx)) ∧ Kp No w w' := by
 refine calls_at (n := 26) Tryd.func77 rfl rfl (by simp) ?_
 (refine At_seq (At_region ?_); refine s_as ?_; refine AtR_nil (At_seq (At_seq (At_region ?_))); refine s_mv ?_; refine s_nc ?_; refine s_fa ?_; refine s_ld ?_; refine AtR_nil ?_; refine At_cond_f rfl ?_; refine At_skip (At_seq (At_region ?_)); refine s_mv ?_; refine s_mv ?_)
 refine s_call x_call (hmacR_calls kx tx ak lenk capk at' lent capt _ hk ht hbk hbt) ?_
 rintro _ w1 ⟨rfl, k1⟩
 refine ⟨_, rfl, ?_⟩
 (refine s_as ?_; refine AtR_nil ?_)
 refine At_ret1 Tryd.func77 rfl (by conv => lhs; whnf) ?_
 exact ⟨rfl, k1⟩
theorem wrap_u8n (n : Nat) : IntKind.u8.wrap (n : Int) = ub (UInt8.ofNat n) := by
 rw [wrap_u8]; unfold ub; simp
set_option maxRecDepth 100000 in
set_option maxHeartbeats 4000000 in
theorem deriveR_calls (bo : Nat) {fz : Nat × Nat} {cs : List Value} (m : List UInt8) (c : UInt8) (info : List UInt8) (n : Nat) (am : Option Addr) (lenm capm : Nat) (ai : Option Addr) (leni capi : Nat) (w : World) {D D' : Nat → Prop}
  (hO : Blk w bo 145 fz (.bool false :: cs)) (hm : SlE w .u8 am lenm capm (bs8 m) D) (hi : SlE w .u8 ai leni capi (bs8 info) D') (hbm : lenm ≤ 35184372088000) (hbi : leni ≤ 35184372087000) (hn : n ≤ 16320) :
  Calls Tryd.prog 71 #[.pointer (some ⟨bo, 0, none⟩), .slice am lenm capm, .int .u8 (ub c), .slice ai leni capi, .int .i64 (n : Int)] w fun e w' => e = .returned (strV (derive m c info n)) ∧ Kp No w w' := by
 have hli := hi.len_eq
 simp only [bs8_length] at hli
 refine calls_at (n := 50) Tryd.func71 rfl rfl (by simp) ?_
 (refine At_seq (At_region ?_); refine s_as ?_; refine AtR_nil (At_seq (At_region ?_)); refine s_mv ?_)
 refine AtR_go rfl (AtG_make1 (z := .int .u8 0) rfl rfl (by omega) (by omega) rfl (by omega) (by omega) fun b1 w1 hb1 e1 => ?_)
 have B1 : Blk w1 b1 5 (0, 0) (ints .u8 (bs8 (List.replicate 64 0))) := e1.blk
 have K1 : Kp No w w1 := e1.kp (.inr (by omega))
 clear e1
 (refine s_mv ?_)
 refine s_call x_call (sealR_calls bo (List.replicate 64 0) m _ _ _ am lenm capm _ (D := fun _ => True) (hO.kp K1 id) ((B1.sl (m := 64) rfl (by omega)).e fun _ _ => trivial) (hm.kpn K1) (by omega) hbm) ?_
 rintro _ w2 ⟨rfl, k2⟩
 refine ⟨_, rfl, ?_⟩
 have K2 := K1.trans k2
 have hml := hmac_length (List.replicate 64 0) m
 obtain ⟨kk, hkk⟩ : ∃ kk, kk = hmac (List.replicate 64 0) m := ⟨_, rfl⟩
 have hder : derive m c info n = (drv kk c info ((n + 63) / 64)).1.take n := by rw [hkk]; rfl
 rw [← hkk] at hml ⊢
 rw [hder]
 refine AtR_go rfl (G_val (r_conv_sb rfl (by rw [hml]; simp [maxLen])) ?_)
 rintro _ w3 ⟨b3, cap3, rfl, hb3, hs3, k3⟩
 have K3 := K2.trans k3
 clear B1 K1 K2 k2 k3
 (refine s_as ?_; refine AtR_nil (At_seq (At_region ?_)); refine s_as ?_; refine s_as ?_; refine AtR_nil (At_seq (At_seq (At_region ?_))); refine s_as ?_; refine AtR_nil (At_block ?_))
 refine At_while (fun i : Nat => [(0, .pointer (some ⟨bo, 0, none⟩)), (2, .int .u8 (ub c)), (3, .slice ai leni capi), (4, .int .i64 (n : Int)), (11, .slice (some ⟨b3, 0, none⟩) kk.length cap3), (12, strV (drv kk c info i).1), (13, strV (drv kk c info i).2), (14, .int .i64 ((i + 1 : Nat) : Int))])
  (fun i w' => i ≤ (n + 63) / 64 ∧ Kp No w3 w') (fun i => (n + 63) / 64 - i) 0 ⟨rfl, rfl, rfl, rfl, rfl, rfl, rfl, rfl, trivial⟩ ⟨by omega, Kp.refl _ _⟩ ?_
 rintro i w4 junk ⟨hil, K4⟩ again
 obtain ⟨hd1, hd2⟩ := drv_length kk c info i
 by_cases hlt : i < (n + 63) / 64
 ·(refine At_seq (At_seq (At_region ?_)); refine s_mv ?_; refine s_lns ?_; refine s_mv ?_; refine s_lss ?_; refine AtR_nil ?_; refine At_cond_t rfl ?_; refine At_skip (At_seq (At_block (At_seq (At_region ?_)))); refine s_mv ?_; refine s_mv ?_; refine s_mv ?_)
  refine s_val (x_cat (m := label) rfl rfl (by simp [label]; omega)) ?_
  (refine s_mv ?_)
  refine AtR_go rfl (AtG_buildSlice1 (ops := [_]) rfl rfl (by omega) rfl rfl rfl fun b5 w5 hb5 e5 => ?_)
  have B5 : Blk w5 b5 5 (0, 0) (ints .u8 (bs8 [c])) := e5.blk
  have K5 := K4.trans (e5.kp (.inr (by omega)))
  clear e5
  refine s_val (x_conv_bs (D := fun _ => True) rfl ((B5.sl (m := 1) rfl (by omega)).e fun _ _ => trivial)) ?_
  refine s_val (x_cat rfl rfl (by simp [label]; omega)) ?_
  (refine s_mv ?_)
  refine s_val (x_conv_bs rfl ((hi.kpn K3).kpn K5)) ?_
  refine s_val (x_cat rfl rfl (by simp [label]; omega)) ?_
  (refine s_mv ?_; refine s_cv ?_)
  rw [wrap_u8n]
  refine AtR_go rfl (AtG_buildSlice1 (ops := [_]) rfl rfl (by omega) rfl rfl rfl fun b6 w6 hb6 e6 => ?_)
  have B6 : Blk w6 b6 5 (0, 0) (ints .u8 (bs8 [UInt8.ofNat (i + 1)])) := e6.blk
  have K6 := K5.trans (e6.kp (.inr (by omega)))
  clear e6
  refine s_val (x_conv_bs (D := fun _ => True) rfl ((B6.sl (m := 1) rfl (by omega)).e fun _ _ => trivial)) ?_
  refine s_val (x_cat rfl rfl (by simp [label]; omega)) ?_
  refine AtR_go rfl (G_val (r_conv_sb rfl (by simp [maxLen, label]; omega)) ?_)
  rintro _ w7 ⟨b7, cap7, rfl, hb7, hs7, k7⟩
  have K7 := K6.trans k7
  refine s_call x_call (sealR_calls bo kk _ _ _ _ _ _ _ _ (D := fun _ => True) (D' := fun _ => True) ((hO.kp K3 id).kp K7 id) ((hs3.kpn K7).e fun _ _ => trivial) (hs7.e fun _ _ => trivial) (by omega) (by simp [label]; omega)) ?_
  rintro _ w8 ⟨rfl, k8⟩
  refine ⟨_, rfl, ?_⟩
  have hml2 := hmac_length kk ((drv kk c info i).2 ++ label ++ [c] ++ info ++ [UInt8.ofNat (i + 1)])
  (refine s_as ?_; refine AtR_nil (At_region ?_); refine s_mv ?_; refine s_mv ?_)
  refine s_val (x_cat rfl rfl (by omega)) ?_
  (refine s_as ?_; refine AtR_nil (At_inBlock (At_region ?_)); refine s_mv ?_; refine s_ad ?_; refine s_as ?_; refine AtR_nil ?_)
  exact again (i + 1) _ _ ⟨rfl, rfl, rfl, rfl, rfl, rfl, rfl, rfl, trivial⟩ ⟨hlt, K7.trans k8⟩ (by omega)
 have hie : i = (n + 63) / 64 := by omega
 rw [← hie]
 clear again
 (refine At_seq (At_seq (At_region ?_)); refine s_mv ?_; refine s_lns ?_; refine s_mv ?_; refine s_lss ?_; refine AtR_nil ?_; refine At_cond_f rfl ?_; refine At_exit rfl ?_; refine At_seq (At_region ?_); refine s_mv ?_; refine s_mv ?_)
 refine s_val (x_slice_str_h rfl rfl (by omega)) ?_
 (refine s_as ?_; refine AtR_nil ?_)
 refine At_ret1 Tryd.func71 rfl (by conv => lhs; whnf) ?_
 exact ⟨rfl, K3.trans K4⟩
end Go.Proofs.YtfngacepjcdlnaaDoor
namespace Go.Kx
open Go
section
variable {P : Program} {n : Nat} {env : Env} {w : World} {dst : Option Tmp} {ty : TypeId} {pos : String} {aft : Array Edge} {g : Option (Nat × Bool)}
theorem x_eql_slice_nil {x y : Operand} {T T' E : TypeId} {a : Option Addr} {l c : Nat} [hT : TU P T (.slice E)] (hx : ev n env x = .slice a l c) (hy : ev n env y = .slice none 0 0) :
  Run P n env ⟨dst, .binOp .eql T x y T', ty, pos, aft, g⟩ w (.ok (.value (.bool a.isNone)) w) := by
 unfold Run
 simp only [execOp, hx, hy]
 simp [eqGuard, binOp, run_equal_slice_nil w T E a l c hT.h]
end
end Go.Kx
namespace Go.Proofs.YtfngacepjcdlnaaDoor
open Go Go.Kx
set_option maxRecDepth 100000 in
theorem clone_calls (l : List UInt8) (a : Option Addr) (len cap : Nat) (w : World) {D : Nat → Prop} (hs : SlE w .u8 a len cap (bs8 l) D) (hb : len ≤ 35184372088832) (hn : a = none → len = 0) :
  Calls Tryd.prog 69 #[.slice a len cap] w
   fun e w' => ∃ a' cap', e = .returned (.slice a' len cap') ∧ Own w' 5 1 a' len cap' (ints .u8 (bs8 l)) ∧ (∀ j, blkOf a' j → w.heap.size ≤ j) ∧ Kp No w w' := by
 have hl := hs.len_eq
 simp only [bs8_length] at hl
 refine calls_at (n := 8) Tryd.func69 rfl rfl (by simp) ?_
 (refine At_seq (At_region ?_); refine s_as ?_; refine AtR_nil (At_seq (At_seq (At_region ?_))); refine s_mv ?_)
 refine s_val (x_eql_slice_nil rfl rfl) ?_
 cases a with
 | none =>
  have h0 : len = 0 := hn rfl
  subst h0
  have : l = [] := List.eq_nil_of_length_eq_zero hl
  subst this
  rw [Option.isNone_none]
  (refine AtR_nil ?_; refine At_cond_t rfl ?_; refine At_seq (At_region ?_); refine s_as ?_; refine AtR_nil ?_)
  refine At_ret1 Tryd.func69 rfl (by conv => lhs; whnf) ?_
  exact ⟨none, 0, rfl, Own.nil _ _ _, fun j hj => by simp [blkOf] at hj, Kp.refl _ _⟩
 | some a =>
  rw [Option.isNone_some]
  (refine AtR_nil ?_; refine At_cond_f rfl ?_; refine At_skip (At_seq ?_); refine At_region ?_)
  refine AtR_go rfl (AtG_buildSlice1 (ops := []) rfl rfl (by omega) rfl rfl rfl fun b1 w1 hb1 e1 => ?_)
  have ho1 := Blk.own (e1.blk : Blk w1 b1 5 (0, 0) []) (m := 0) rfl (by simp [maxLen])
  have K1 : Kp No w w1 := e1.kp (.inr (by omega))
  have hs1 := hs.kpn K1
  clear e1
  (refine s_mv ?_)
  refine AtR_go rfl (AtG_append (tx := 31) rfl rfl ho1 (hs1.src (T := 31) rfl) rfl (by omega) (by simp only [maxLen]; omega) (by omega) fun a2 cap2 w2 ho2 k2 hfr2 => ?_)
  (refine s_as ?_; refine AtR_nil ?_)
  refine At_ret1 Tryd.func69 rfl (by conv => lhs; whnf) ?_
  have hz := K1.size
  refine ⟨a2, cap2, ?_, own_eq ho2 (by simp) (by omega), ?_, K1.trans' k2 (fun j hj => by simp [blkOf] at hj; right; omega)⟩
  ·rw [Nat.zero_add]
  ·rcases hfr2 with rfl | ⟨b', rfl, hb'⟩
   ·intro j hj; simp [blkOf] at hj; omega
   ·intro j hj; simp [blkOf] at hj; omega
def fillTo (l : List UInt8) (n : Nat) : List UInt8 := l ++ List.replicate (n - l.length) 0
theorem fillTo_length (l : List UInt8) (n : Nat) (h : l.length ≤ n) : (fillTo l n).length = n := by simp [fillTo]; omega
set_option maxRecDepth 100000 in
set_option maxHeartbeats 1000000 in
theorem ofill_calls (l : List UInt8) (a : Option Addr) (len cap : Nat) (m : Nat) (w : World) {D : Nat → Prop} (hs : SlE w .u8 a len cap (bs8 l) D) (hn : a = none → len = 0) (hm : len ≤ m) (hb : m ≤ 35184372088832) :
  Calls Tryd.prog 139 #[.slice a len cap, .int .i64 (m : Int)] w
   fun e w' => ∃ a' cap', e = .returned (.slice a' m cap') ∧ Own w' 5 1 a' m cap' (ints .u8 (bs8 (fillTo l m))) ∧ (∀ j, blkOf a' j → w.heap.size ≤ j) ∧ Kp No w w' := by
 have hl := hs.len_eq
 simp only [bs8_length] at hl
 refine calls_at (n := 16) Tryd.func139 rfl rfl (by simp) ?_
 (refine At_seq (At_region ?_); refine s_as ?_; refine AtR_nil (At_seq (At_region ?_)); refine s_mv ?_)
 refine s_call x_call (clone_calls l a len cap _ hs (by omega) hn) ?_
 rintro _ w1 ⟨a1, cap1, rfl, ho1, hf1, k1⟩
 refine ⟨_, rfl, ?_⟩
 (refine s_as ?_; refine AtR_nil (At_seq ?_); refine At_block ?_)
 refine At_while (fun s : Nat × (Option Addr × Nat) => [(1, .int .i64 (m : Int)), (5, .slice s.2.1 (len + s.1) s.2.2)])
  (fun s w' => len + s.1 ≤ m ∧ Own w' 5 1 s.2.1 (len + s.1) s.2.2 (ints .u8 (bs8 (l ++ List.replicate s.1 0))) ∧ (∀ j, blkOf s.2.1 j → w.heap.size ≤ j) ∧ Kp No w w') (fun s => m - s.1) (0, (a1, cap1)) ⟨rfl, rfl, trivial⟩
  ⟨by omega, own_eq ho1 (by simp) rfl, hf1, k1⟩ ?_
 clear ho1 hf1 k1
 rintro ⟨i, ⟨a2, cap2⟩⟩ w2 junk ⟨hi, ho, hf, K⟩ again
 simp only at hi ho hf again ⊢
 by_cases hlt : len + i < m
 ·(refine At_seq (At_seq (At_region ?_)); refine s_mv ?_; refine s_ln ?_; refine s_mv ?_; refine s_lss ?_; refine AtR_nil ?_; refine At_cond_t rfl ?_; refine At_skip (At_block (At_region ?_)); refine s_mv ?_)
  refine AtR_go rfl (AtG_buildSlice1 (ops := [_]) rfl rfl (by omega) rfl rfl rfl fun b3 w3 hb3 e3 => ?_)
  have B3 : Blk w3 b3 5 (0, 0) (ints .u8 [0]) := e3.blk
  have ho3 := ho.kp (e3.kp (S := No) (.inr (by omega))) (fun _ _ => id)
  have K3 := K.trans (e3.kp (.inr (by omega)))
  clear e3 ho
  refine AtR_go rfl (AtG_append (tx := 31) rfl rfl ho3 ((B3.sl (m := 1) rfl (by omega)).src (T := 31) rfl) rfl (by omega) (by simp only [maxLen]; omega) (by omega) fun a' cap' w4 ho4 k4 hfr4 => ?_)
  have hzK := K3.size
  (refine s_as ?_; refine AtR_nil (At_inBlock ?_))
  refine again (i + 1, (a', cap')) _ _ ⟨rfl, rfl, trivial⟩ ⟨by simp only; omega, own_eq ho4 ?_ rfl, ?_, K3.trans' k4 (fun j hj => .inr (hf j hj))⟩ (by simp only; omega)
  ·rw [List.replicate_succ', ← List.append_assoc]
   simp [ints, bs8]
   rfl
  ·rcases hfr4 with rfl | ⟨b', rfl, hb'⟩
   ·exact hf
   ·intro j hj; simp [blkOf] at hj; omega
 have hie : len + i = m := by omega
 clear again
 rw [hie] at ho ⊢
 (refine At_seq (At_seq (At_region ?_)); refine s_mv ?_; refine s_ln ?_; refine s_mv ?_; refine s_lss ?_; refine AtR_nil ?_; refine At_cond_f rfl ?_; refine At_exit rfl ?_; refine At_seq (At_region ?_); refine s_mv ?_; refine s_as ?_; refine AtR_nil ?_)
 refine At_ret1 Tryd.func139 rfl (by conv => lhs; whnf) ?_
 exact ⟨_, _, rfl, own_eq ho (by rw [fillTo, show m - l.length = i by omega]) rfl, hf, K⟩
end Go.Proofs.YtfngacepjcdlnaaDoor
namespace Go.Kx
open Go
section
variable {P : Program} {n : Nat} {env : Env} {w : World} {dst : Option Tmp} {ty : TypeId} {pos : String} {aft : Array Edge} {g : Option (Nat × Bool)}
theorem r_store_ob {T E : TypeId} {s : Nat} [hs : TSz P T s] {x y : Operand} {b j m cap : Nat} {O : List UInt8} {v : UInt8} (hx : ev n env x = .pointer (some ⟨b, 0 + j, none⟩))
  (hy : ev n env y = .int .u8 (ub v)) (ho : Own w E 1 (some ⟨b, 0, none⟩) m cap (ints .u8 (bs8 O))) (hj : j < O.length) (h1 : s = 1) :
  ∃ w', Run P n env ⟨dst, .store T x y, ty, pos, aft, g⟩ w (.ok .skip w') ∧ Own w' E 1 (some ⟨b, 0, none⟩) m cap (ints .u8 (bs8 (O.set j v))) ∧ Kp (fun i => i = b) w w' := by
 obtain ⟨h2, h3, h4, h5⟩ := ho
 rcases h5 with ⟨h6, _⟩ | ⟨b', sp, h6, hB, hl⟩
 ·cases h6
 cases h6
 rw [Nat.zero_add] at hx
 obtain ⟨w', hr, he⟩ := r_store1 (P := P) (w := w) (dst := dst) (ty := ty) (pos := pos) (aft := aft) (g := g) (T := T) (off := j) (v := .int .u8 (ub v)) hx hy hB (by simp; omega) rfl h1
 have e : (ints .u8 (bs8 O) ++ sp).set j (.int .u8 (ub v)) = ints .u8 (bs8 (O.set j v)) ++ sp := by
  rw [List.set_append_left _ _ (by simpa using hj), ints_set, bs8_set]
 rw [e] at he
 refine ⟨w', hr, ⟨by simpa using h2, h3, h4, .inr ⟨b, sp, rfl, he.blk, by simpa using hl⟩⟩, he.kp (.inl rfl)⟩
end
end Go.Kx
namespace Go.Proofs.YtfngacepjcdlnaaDoor
open Go Go.Kx
theorem getDb_set (l : List UInt8) (i j : Nat) (v : UInt8) (h : i < l.length) : (l.set i v).getD j 0 = if j = i then v else l.getD j 0 := by
 by_cases e : j = i
 ·subst e; simp [List.getD, h]
 ·rw [if_neg e]; simp [List.getD, Ne.symm e]
set_option maxRecDepth 100000 in
set_option maxHeartbeats 2000000 in
theorem xor_calls (la lb : List UInt8) (aa : Option Addr) (capa : Nat) (ab : Option Addr) (capb : Nat) (m : Nat) (w : World) {D D' : Nat → Prop} (ha : SlE w .u8 aa m capa (bs8 la) D) (hb : SlE w .u8 ab m capb (bs8 lb) D') (h0 : 0 < m) (hm : m ≤ 35184372088832) :
  Calls Tryd.prog 138 #[.slice aa m capa, .slice ab m capb] w
   fun e w' => ∃ a' cap', e = .returned (.slice a' m cap') ∧ Own w' 5 1 a' m cap' (ints .u8 (bs8 (List.zipWith (· ^^^ ·) la lb))) ∧ (∀ j, blkOf a' j → w.heap.size ≤ j) ∧ Kp No w w' := by
 have hla := ha.len_eq
 have hlb := hb.len_eq
 have hca := ha.le
 simp only [bs8_length] at hla hlb
 rcases ha.mem with h | ⟨ba, oa, rfl, hlta, hDa, hsa⟩
 ·omega
 rcases hb.mem with h | ⟨bb, ob, rfl, hltb, hDb, hsb⟩
 ·have := hb.le; omega
 have hsp : ∀ ad : Addr, some (⟨ba, oa, none⟩ : Addr) = some ad → ad.spot = none := by rintro _ ⟨⟩; rfl
 refine calls_at (n := 32) Tryd.func138 rfl rfl (by simp) ?_
 (refine At_seq (At_region ?_); refine s_as ?_; refine AtR_nil (At_seq (At_region ?_)); refine s_mv ?_; refine s_mv ?_; refine s_ln ?_; refine s_mv ?_; refine s_ln ?_)
 refine s_val (x_min rfl rfl) ?_
 rw [show min (m : Int) m = m by omega]
 (refine s_sl ?_)
 refine s_call x_call (clone_calls la _ m capa _ ha hm (fun h => by cases h)) ?_
 rintro _ w1 ⟨a1, cap1, rfl, ho1, hf1, k1⟩
 refine ⟨_, rfl, ?_⟩
 have ho1' := ho1
 obtain ⟨b1, rfl⟩ : ∃ b1, a1 = some ⟨b1, 0, none⟩ := by
  rcases ho1'.2.2.2 with ⟨_, h⟩ | ⟨b, sp, h, _⟩
  ·have := ho1'.2.1; omega
  ·exact ⟨b, h⟩
 have hfb : w.heap.size ≤ b1 := hf1 b1 rfl
 clear ho1'
 (refine s_as ?_; refine AtR_nil (At_seq (At_seq (At_region ?_))); refine s_mv ?_; refine s_ln ?_; refine s_mv ?_; refine AtR_nil (At_block ?_))
 refine At_while (fun i : Nat => [(1, .slice (some ⟨bb, ob, none⟩) m capb), (5, .slice (some ⟨b1, 0, none⟩) m cap1), (16, .int .i64 (m : Int)), (17, .int .i64 (i : Int))])
  (fun i w' => i ≤ m ∧ (∃ O : List UInt8, Own w' 5 1 (some ⟨b1, 0, none⟩) m cap1 (ints .u8 (bs8 O)) ∧ O.length = m ∧ ∀ j, O.getD j 0 = if j < i then la.getD j 0 ^^^ lb.getD j 0 else la.getD j 0) ∧ Kp No w w') (fun i => m - i) 0 ⟨rfl, rfl, rfl, rfl, trivial⟩
  ⟨by omega, ⟨la, ho1, hla, fun j => by simp⟩, k1⟩ ?_
 clear ho1 k1
 rintro i w2 junk ⟨hi, ⟨O, ho, hO, hOj⟩, K⟩ again
 by_cases hlt : i < m
 ·have kd := Kp.drew (S := No) (w := w2)
  (refine At_seq (At_region ?_); refine s_lss ?_; refine AtR_nil (At_seq ?_); refine At_cond_t rfl ?_; refine At_skip (At_seq (At_block (At_seq (At_region ?_)))); refine s_mv ?_; refine s_as ?_; refine AtR_nil ?_)
  refine At_draw (fun w' => Seg w' bb ob (ints .u8 (bs8 lb))) rfl ?_
  have hS : Seg w2.drew bb ob (ints .u8 (bs8 lb)) := hsb.kp (K.trans kd) id hltb
  have ho2 := ho.kp kd (fun _ _ => id)
  have hbm : bb < w2.drew.heap.size := Nat.lt_of_lt_of_le hltb (Nat.le_trans K.size kd.size)
  have hseg : Seg w2.drew b1 0 (ints .u8 (bs8 O)) := by
   rcases ho2.sl.mem with ⟨h, _⟩ | ⟨b, o, h, _, hs⟩
   ·cases h
   ·obtain ⟨b', sp, h', _⟩ : ∃ b' sp, (some (⟨b1, 0, none⟩ : Addr)) = some ⟨b', 0, none⟩ ∧ Blk w2.drew b' 5 (0, 0) (ints .u8 (bs8 O) ++ sp) := by
     rcases ho2.2.2.2 with ⟨h, _⟩ | ⟨b', sp, h, hB, _⟩
     ·cases h
     ·exact ⟨b', sp, h, hB⟩
    cases h
    exact hs
  (apply AtH_take 0 rfl (by decide +kernel) (by first | exact rfl | exact ⟨_, _, rfl, by decide, rfl, rfl⟩); (focus (intro wx hx; skip; first | exact x_len_str rfl | exact x_xorW rfl rfl | exact x_andW rfl rfl | exact x_orW rfl rfl | exact x_addW rfl rfl | exact x_load_bw rfl (by assumption) (by omega) | exact x_load_sw rfl (by assumption) (by omega) | exact x_load_bb rfl (by assumption) (by omega) | exact x_load_sb rfl (by assumption) (by omega) | exact x_indexAddrA rfl rfl (by omega) | exact x_indexAddrI rfl rfl (by omega) (by omega) | exact x_quoI rfl rfl (by omega) (by omega) (by omega) | exact x_remI rfl rfl (by omega) (by omega) | exact x_mul64 rfl rfl (by omega) (by omega) | exact x_shlW rfl rfl (by omega) | exact x_shrW rfl rfl (by omega) | exact x_conv_bw rfl | exact x_conv_wb rfl | exact x_neg64 rfl (by omega) (by omega) | exact x_xorB rfl rfl | exact x_slice_arr rfl | exact x_slice_arr_l rfl rfl (by omega) | exact x_slice_arr_h rfl rfl (by omega) | exact x_notW rfl | exact x_move (by conv => lhs; whnf) | exact x_assign (by conv => lhs; whnf) | exact x_pick_t rfl (by conv => lhs; whnf) | exact x_pick_f rfl (by conv => lhs; whnf) | exact x_not rfl | exact x_extract rfl rfl | exact x_nilCheck rfl | exact x_load_ints rfl (by assumption) (by omega) | exact x_load_bints rfl (by assumption) (by omega) | exact x_load_flw rfl (by assumption) (by assumption) rfl | exact x_load1 rfl (by assumption) rfl | exact x_load_fl rfl (by assumption) rfl (by assumption) rfl | exact x_load_fl1 rfl (by assumption) rfl (by assumption) | exact x_indexAddrN1 rfl rfl (by omega) | exact x_slice_hN rfl (by assumption) rfl (by omega) | exact x_indexAddr1 rfl rfl (by omega) (by omega) | exact x_add64 rfl rfl (by omega) (by omega) | exact x_sub64 rfl rfl (by omega) (by omega) | exact x_len_slice rfl | exact x_len_string rfl | exact x_fieldAddrN rfl (by first | exact Nat.zero_add _ | exact Nat.add_zero _ | (simp only [Nat.reduceAdd] <;> rfl) | exact rfl))); (focus (exact hS)))
  (apply AtH_take 1 rfl (by decide +kernel) (by first | exact rfl | exact ⟨_, _, rfl, by decide, rfl, rfl⟩); (focus (intro wx hx; skip; first | exact x_len_str rfl | exact x_xorW rfl rfl | exact x_andW rfl rfl | exact x_orW rfl rfl | exact x_addW rfl rfl | exact x_load_bw rfl (by assumption) (by omega) | exact x_load_sw rfl (by assumption) (by omega) | exact x_load_bb rfl (by assumption) (by omega) | exact x_load_sb rfl (by assumption) (by omega) | exact x_indexAddrA rfl rfl (by omega) | exact x_indexAddrI rfl rfl (by omega) (by omega) | exact x_quoI rfl rfl (by omega) (by omega) (by omega) | exact x_remI rfl rfl (by omega) (by omega) | exact x_mul64 rfl rfl (by omega) (by omega) | exact x_shlW rfl rfl (by omega) | exact x_shrW rfl rfl (by omega) | exact x_conv_bw rfl | exact x_conv_wb rfl | exact x_neg64 rfl (by omega) (by omega) | exact x_xorB rfl rfl | exact x_slice_arr rfl | exact x_slice_arr_l rfl rfl (by omega) | exact x_slice_arr_h rfl rfl (by omega) | exact x_notW rfl | exact x_move (by conv => lhs; whnf) | exact x_assign (by conv => lhs; whnf) | exact x_pick_t rfl (by conv => lhs; whnf) | exact x_pick_f rfl (by conv => lhs; whnf) | exact x_not rfl | exact x_extract rfl rfl | exact x_nilCheck rfl | exact x_load_ints rfl (by assumption) (by omega) | exact x_load_bints rfl (by assumption) (by omega) | exact x_load_flw rfl (by assumption) (by assumption) rfl | exact x_load1 rfl (by assumption) rfl | exact x_load_fl rfl (by assumption) rfl (by assumption) rfl | exact x_load_fl1 rfl (by assumption) rfl (by assumption) | exact x_indexAddrN1 rfl rfl (by omega) | exact x_slice_hN rfl (by assumption) rfl (by omega) | exact x_indexAddr1 rfl rfl (by omega) (by omega) | exact x_add64 rfl rfl (by omega) (by omega) | exact x_sub64 rfl rfl (by omega) (by omega) | exact x_len_slice rfl | exact x_len_string rfl | exact x_fieldAddrN rfl (by first | exact Nat.zero_add _ | exact Nat.add_zero _ | (simp only [Nat.reduceAdd] <;> rfl) | exact rfl))); (focus (exact hS)))
  (apply AtH_take 2 rfl (by decide +kernel) (by first | exact rfl | exact ⟨_, _, rfl, by decide, rfl, rfl⟩); (focus (intro wx hx; skip; first | exact x_len_str rfl | exact x_xorW rfl rfl | exact x_andW rfl rfl | exact x_orW rfl rfl | exact x_addW rfl rfl | exact x_load_bw rfl (by assumption) (by omega) | exact x_load_sw rfl (by assumption) (by omega) | exact x_load_bb rfl (by assumption) (by omega) | exact x_load_sb rfl (by assumption) (by omega) | exact x_indexAddrA rfl rfl (by omega) | exact x_indexAddrI rfl rfl (by omega) (by omega) | exact x_quoI rfl rfl (by omega) (by omega) (by omega) | exact x_remI rfl rfl (by omega) (by omega) | exact x_mul64 rfl rfl (by omega) (by omega) | exact x_shlW rfl rfl (by omega) | exact x_shrW rfl rfl (by omega) | exact x_conv_bw rfl | exact x_conv_wb rfl | exact x_neg64 rfl (by omega) (by omega) | exact x_xorB rfl rfl | exact x_slice_arr rfl | exact x_slice_arr_l rfl rfl (by omega) | exact x_slice_arr_h rfl rfl (by omega) | exact x_notW rfl | exact x_move (by conv => lhs; whnf) | exact x_assign (by conv => lhs; whnf) | exact x_pick_t rfl (by conv => lhs; whnf) | exact x_pick_f rfl (by conv => lhs; whnf) | exact x_not rfl | exact x_extract rfl rfl | exact x_nilCheck rfl | exact x_load_ints rfl (by assumption) (by omega) | exact x_load_bints rfl (by assumption) (by omega) | exact x_load_flw rfl (by assumption) (by assumption) rfl | exact x_load1 rfl (by assumption) rfl | exact x_load_fl rfl (by assumption) rfl (by assumption) rfl | exact x_load_fl1 rfl (by assumption) rfl (by assumption) | exact x_indexAddrN1 rfl rfl (by omega) | exact x_slice_hN rfl (by assumption) rfl (by omega) | exact x_indexAddr1 rfl rfl (by omega) (by omega) | exact x_add64 rfl rfl (by omega) (by omega) | exact x_sub64 rfl rfl (by omega) (by omega) | exact x_len_slice rfl | exact x_len_string rfl | exact x_fieldAddrN rfl (by first | exact Nat.zero_add _ | exact Nat.add_zero _ | (simp only [Nat.reduceAdd] <;> rfl) | exact rfl))); (focus (exact hS)))
  (apply AtH_take 4 rfl (by decide +kernel) (by first | exact rfl | exact ⟨_, _, rfl, by decide, rfl, rfl⟩); (focus (intro wx hx; skip; first | exact x_len_str rfl | exact x_xorW rfl rfl | exact x_andW rfl rfl | exact x_orW rfl rfl | exact x_addW rfl rfl | exact x_load_bw rfl (by assumption) (by omega) | exact x_load_sw rfl (by assumption) (by omega) | exact x_load_bb rfl (by assumption) (by omega) | exact x_load_sb rfl (by assumption) (by omega) | exact x_indexAddrA rfl rfl (by omega) | exact x_indexAddrI rfl rfl (by omega) (by omega) | exact x_quoI rfl rfl (by omega) (by omega) (by omega) | exact x_remI rfl rfl (by omega) (by omega) | exact x_mul64 rfl rfl (by omega) (by omega) | exact x_shlW rfl rfl (by omega) | exact x_shrW rfl rfl (by omega) | exact x_conv_bw rfl | exact x_conv_wb rfl | exact x_neg64 rfl (by omega) (by omega) | exact x_xorB rfl rfl | exact x_slice_arr rfl | exact x_slice_arr_l rfl rfl (by omega) | exact x_slice_arr_h rfl rfl (by omega) | exact x_notW rfl | exact x_move (by conv => lhs; whnf) | exact x_assign (by conv => lhs; whnf) | exact x_pick_t rfl (by conv => lhs; whnf) | exact x_pick_f rfl (by conv => lhs; whnf) | exact x_not rfl | exact x_extract rfl rfl | exact x_nilCheck rfl | exact x_load_ints rfl (by assumption) (by omega) | exact x_load_bints rfl (by assumption) (by omega) | exact x_load_flw rfl (by assumption) (by assumption) rfl | exact x_load1 rfl (by assumption) rfl | exact x_load_fl rfl (by assumption) rfl (by assumption) rfl | exact x_load_fl1 rfl (by assumption) rfl (by assumption) | exact x_indexAddrN1 rfl rfl (by omega) | exact x_slice_hN rfl (by assumption) rfl (by omega) | exact x_indexAddr1 rfl rfl (by omega) (by omega) | exact x_add64 rfl rfl (by omega) (by omega) | exact x_sub64 rfl rfl (by omega) (by omega) | exact x_len_slice rfl | exact x_len_string rfl | exact x_fieldAddrN rfl (by first | exact Nat.zero_add _ | exact Nat.add_zero _ | (simp only [Nat.reduceAdd] <;> rfl) | exact rfl))); (focus (exact hS)))
  (apply AtH_take 5 rfl (by decide +kernel) (by first | exact rfl | exact ⟨_, _, rfl, by decide, rfl, rfl⟩); (focus (intro wx hx; skip; first | exact x_len_str rfl | exact x_xorW rfl rfl | exact x_andW rfl rfl | exact x_orW rfl rfl | exact x_addW rfl rfl | exact x_load_bw rfl (by assumption) (by omega) | exact x_load_sw rfl (by assumption) (by omega) | exact x_load_bb rfl (by assumption) (by omega) | exact x_load_sb rfl (by assumption) (by omega) | exact x_indexAddrA rfl rfl (by omega) | exact x_indexAddrI rfl rfl (by omega) (by omega) | exact x_quoI rfl rfl (by omega) (by omega) (by omega) | exact x_remI rfl rfl (by omega) (by omega) | exact x_mul64 rfl rfl (by omega) (by omega) | exact x_shlW rfl rfl (by omega) | exact x_shrW rfl rfl (by omega) | exact x_conv_bw rfl | exact x_conv_wb rfl | exact x_neg64 rfl (by omega) (by omega) | exact x_xorB rfl rfl | exact x_slice_arr rfl | exact x_slice_arr_l rfl rfl (by omega) | exact x_slice_arr_h rfl rfl (by omega) | exact x_notW rfl | exact x_move (by conv => lhs; whnf) | exact x_assign (by conv => lhs; whnf) | exact x_pick_t rfl (by conv => lhs; whnf) | exact x_pick_f rfl (by conv => lhs; whnf) | exact x_not rfl | exact x_extract rfl rfl | exact x_nilCheck rfl | exact x_load_ints rfl (by assumption) (by omega) | exact x_load_bints rfl (by assumption) (by omega) | exact x_load_flw rfl (by assumption) (by assumption) rfl | exact x_load1 rfl (by assumption) rfl | exact x_load_fl rfl (by assumption) rfl (by assumption) rfl | exact x_load_fl1 rfl (by assumption) rfl (by assumption) | exact x_indexAddrN1 rfl rfl (by omega) | exact x_slice_hN rfl (by assumption) rfl (by omega) | exact x_indexAddr1 rfl rfl (by omega) (by omega) | exact x_add64 rfl rfl (by omega) (by omega) | exact x_sub64 rfl rfl (by omega) (by omega) | exact x_len_slice rfl | exact x_len_string rfl | exact x_fieldAddrN rfl (by first | exact Nat.zero_add _ | exact Nat.add_zero _ | (simp only [Nat.reduceAdd] <;> rfl) | exact rfl))); (focus (exact hS)))
  (apply AtH_take 6 rfl (by decide +kernel) (by first | exact rfl | exact ⟨_, _, rfl, by decide, rfl, rfl⟩); (focus (intro wx hx; skip; first | exact x_len_str rfl | exact x_xorW rfl rfl | exact x_andW rfl rfl | exact x_orW rfl rfl | exact x_addW rfl rfl | exact x_load_bw rfl (by assumption) (by omega) | exact x_load_sw rfl (by assumption) (by omega) | exact x_load_bb rfl (by assumption) (by omega) | exact x_load_sb rfl (by assumption) (by omega) | exact x_indexAddrA rfl rfl (by omega) | exact x_indexAddrI rfl rfl (by omega) (by omega) | exact x_quoI rfl rfl (by omega) (by omega) (by omega) | exact x_remI rfl rfl (by omega) (by omega) | exact x_mul64 rfl rfl (by omega) (by omega) | exact x_shlW rfl rfl (by omega) | exact x_shrW rfl rfl (by omega) | exact x_conv_bw rfl | exact x_conv_wb rfl | exact x_neg64 rfl (by omega) (by omega) | exact x_xorB rfl rfl | exact x_slice_arr rfl | exact x_slice_arr_l rfl rfl (by omega) | exact x_slice_arr_h rfl rfl (by omega) | exact x_notW rfl | exact x_move (by conv => lhs; whnf) | exact x_assign (by conv => lhs; whnf) | exact x_pick_t rfl (by conv => lhs; whnf) | exact x_pick_f rfl (by conv => lhs; whnf) | exact x_not rfl | exact x_extract rfl rfl | exact x_nilCheck rfl | exact x_load_ints rfl (by assumption) (by omega) | exact x_load_bints rfl (by assumption) (by omega) | exact x_load_flw rfl (by assumption) (by assumption) rfl | exact x_load1 rfl (by assumption) rfl | exact x_load_fl rfl (by assumption) rfl (by assumption) rfl | exact x_load_fl1 rfl (by assumption) rfl (by assumption) | exact x_indexAddrN1 rfl rfl (by omega) | exact x_slice_hN rfl (by assumption) rfl (by omega) | exact x_indexAddr1 rfl rfl (by omega) (by omega) | exact x_add64 rfl rfl (by omega) (by omega) | exact x_sub64 rfl rfl (by omega) (by omega) | exact x_len_slice rfl | exact x_len_string rfl | exact x_fieldAddrN rfl (by first | exact Nat.zero_add _ | exact Nat.add_zero _ | (simp only [Nat.reduceAdd] <;> rfl) | exact rfl))); (focus (exact hS)))
  (apply AtH_take 7 rfl (by decide +kernel) (by first | exact rfl | exact ⟨_, _, rfl, by decide, rfl, rfl⟩); (focus (intro wx hx; skip; first | exact x_len_str rfl | exact x_xorW rfl rfl | exact x_andW rfl rfl | exact x_orW rfl rfl | exact x_addW rfl rfl | exact x_load_bw rfl (by assumption) (by omega) | exact x_load_sw rfl (by assumption) (by omega) | exact x_load_bb rfl (by assumption) (by omega) | exact x_load_sb rfl (by assumption) (by omega) | exact x_indexAddrA rfl rfl (by omega) | exact x_indexAddrI rfl rfl (by omega) (by omega) | exact x_quoI rfl rfl (by omega) (by omega) (by omega) | exact x_remI rfl rfl (by omega) (by omega) | exact x_mul64 rfl rfl (by omega) (by omega) | exact x_shlW rfl rfl (by omega) | exact x_shrW rfl rfl (by omega) | exact x_conv_bw rfl | exact x_conv_wb rfl | exact x_neg64 rfl (by omega) (by omega) | exact x_xorB rfl rfl | exact x_slice_arr rfl | exact x_slice_arr_l rfl rfl (by omega) | exact x_slice_arr_h rfl rfl (by omega) | exact x_notW rfl | exact x_move (by conv => lhs; whnf) | exact x_assign (by conv => lhs; whnf) | exact x_pick_t rfl (by conv => lhs; whnf) | exact x_pick_f rfl (by conv => lhs; whnf) | exact x_not rfl | exact x_extract rfl rfl | exact x_nilCheck rfl | exact x_load_ints rfl (by assumption) (by omega) | exact x_load_bints rfl (by assumption) (by omega) | exact x_load_flw rfl (by assumption) (by assumption) rfl | exact x_load1 rfl (by assumption) rfl | exact x_load_fl rfl (by assumption) rfl (by assumption) rfl | exact x_load_fl1 rfl (by assumption) rfl (by assumption) | exact x_indexAddrN1 rfl rfl (by omega) | exact x_slice_hN rfl (by assumption) rfl (by omega) | exact x_indexAddr1 rfl rfl (by omega) (by omega) | exact x_add64 rfl rfl (by omega) (by omega) | exact x_sub64 rfl rfl (by omega) (by omega) | exact x_len_slice rfl | exact x_len_string rfl | exact x_fieldAddrN rfl (by first | exact Nat.zero_add _ | exact Nat.add_zero _ | (simp only [Nat.reduceAdd] <;> rfl) | exact rfl))); (focus (exact hS)))
  refine AtH_val 3 rfl (by decide +kernel) rfl (x_load_sb rfl hseg (by omega)) hS ?_
  (apply AtH_take 8 rfl (by decide +kernel) (by first | exact rfl | exact ⟨_, _, rfl, by decide, rfl, rfl⟩); (focus (intro wx hx; skip; first | exact x_len_str rfl | exact x_xorW rfl rfl | exact x_andW rfl rfl | exact x_orW rfl rfl | exact x_addW rfl rfl | exact x_load_bw rfl (by assumption) (by omega) | exact x_load_sw rfl (by assumption) (by omega) | exact x_load_bb rfl (by assumption) (by omega) | exact x_load_sb rfl (by assumption) (by omega) | exact x_indexAddrA rfl rfl (by omega) | exact x_indexAddrI rfl rfl (by omega) (by omega) | exact x_quoI rfl rfl (by omega) (by omega) (by omega) | exact x_remI rfl rfl (by omega) (by omega) | exact x_mul64 rfl rfl (by omega) (by omega) | exact x_shlW rfl rfl (by omega) | exact x_shrW rfl rfl (by omega) | exact x_conv_bw rfl | exact x_conv_wb rfl | exact x_neg64 rfl (by omega) (by omega) | exact x_xorB rfl rfl | exact x_slice_arr rfl | exact x_slice_arr_l rfl rfl (by omega) | exact x_slice_arr_h rfl rfl (by omega) | exact x_notW rfl | exact x_move (by conv => lhs; whnf) | exact x_assign (by conv => lhs; whnf) | exact x_pick_t rfl (by conv => lhs; whnf) | exact x_pick_f rfl (by conv => lhs; whnf) | exact x_not rfl | exact x_extract rfl rfl | exact x_nilCheck rfl | exact x_load_ints rfl (by assumption) (by omega) | exact x_load_bints rfl (by assumption) (by omega) | exact x_load_flw rfl (by assumption) (by assumption) rfl | exact x_load1 rfl (by assumption) rfl | exact x_load_fl rfl (by assumption) rfl (by assumption) rfl | exact x_load_fl1 rfl (by assumption) rfl (by assumption) | exact x_indexAddrN1 rfl rfl (by omega) | exact x_slice_hN rfl (by assumption) rfl (by omega) | exact x_indexAddr1 rfl rfl (by omega) (by omega) | exact x_add64 rfl rfl (by omega) (by omega) | exact x_sub64 rfl rfl (by omega) (by omega) | exact x_len_slice rfl | exact x_len_string rfl | exact x_fieldAddrN rfl (by first | exact Nat.zero_add _ | exact Nat.add_zero _ | (simp only [Nat.reduceAdd] <;> rfl) | exact rfl))); (focus (exact hS)))
  (apply AtH_take 9 rfl (by decide +kernel) (by first | exact rfl | exact ⟨_, _, rfl, by decide, rfl, rfl⟩); (focus (intro wx hx; skip; first | exact x_len_str rfl | exact x_xorW rfl rfl | exact x_andW rfl rfl | exact x_orW rfl rfl | exact x_addW rfl rfl | exact x_load_bw rfl (by assumption) (by omega) | exact x_load_sw rfl (by assumption) (by omega) | exact x_load_bb rfl (by assumption) (by omega) | exact x_load_sb rfl (by assumption) (by omega) | exact x_indexAddrA rfl rfl (by omega) | exact x_indexAddrI rfl rfl (by omega) (by omega) | exact x_quoI rfl rfl (by omega) (by omega) (by omega) | exact x_remI rfl rfl (by omega) (by omega) | exact x_mul64 rfl rfl (by omega) (by omega) | exact x_shlW rfl rfl (by omega) | exact x_shrW rfl rfl (by omega) | exact x_conv_bw rfl | exact x_conv_wb rfl | exact x_neg64 rfl (by omega) (by omega) | exact x_xorB rfl rfl | exact x_slice_arr rfl | exact x_slice_arr_l rfl rfl (by omega) | exact x_slice_arr_h rfl rfl (by omega) | exact x_notW rfl | exact x_move (by conv => lhs; whnf) | exact x_assign (by conv => lhs; whnf) | exact x_pick_t rfl (by conv => lhs; whnf) | exact x_pick_f rfl (by conv => lhs; whnf) | exact x_not rfl | exact x_extract rfl rfl | exact x_nilCheck rfl | exact x_load_ints rfl (by assumption) (by omega) | exact x_load_bints rfl (by assumption) (by omega) | exact x_load_flw rfl (by assumption) (by assumption) rfl | exact x_load1 rfl (by assumption) rfl | exact x_load_fl rfl (by assumption) rfl (by assumption) rfl | exact x_load_fl1 rfl (by assumption) rfl (by assumption) | exact x_indexAddrN1 rfl rfl (by omega) | exact x_slice_hN rfl (by assumption) rfl (by omega) | exact x_indexAddr1 rfl rfl (by omega) (by omega) | exact x_add64 rfl rfl (by omega) (by omega) | exact x_sub64 rfl rfl (by omega) (by omega) | exact x_len_slice rfl | exact x_len_string rfl | exact x_fieldAddrN rfl (by first | exact Nat.zero_add _ | exact Nat.add_zero _ | (simp only [Nat.reduceAdd] <;> rfl) | exact rfl))); (focus (exact hS)))
  refine H_skip 10 rfl (by decide +kernel) rfl (r_store_ob (j := i) rfl rfl ho2 (by omega) rfl) fun w3 h3 => ?_
  obtain ⟨ho3, k3⟩ := h3
  refine ⟨hS.kp k3 (by omega) hbm, AtH_done (by decide +kernel) ?_⟩
  (refine At_inBlock (At_region ?_); refine s_ad ?_; refine s_mv ?_; refine AtR_nil ?_)
  refine again (i + 1) _ _ ⟨rfl, rfl, rfl, rfl, trivial⟩ ⟨hlt, ⟨_, ho3, by simpa using hO, fun j => ?_⟩, (K.trans kd).trans' k3 (by rintro j rfl; right; exact hfb)⟩ (by omega)
  rw [getDb_set _ _ _ _ (by omega), hOj, hOj]
  by_cases e : j = i
  ·subst e; simp
  ·rw [if_neg e]
   by_cases e2 : j < i
   ·rw [if_pos e2, if_pos (by omega)]
   ·rw [if_neg e2, if_neg (by omega)]
 have hie : i = m := by omega
 subst hie
 clear again
 have hOe : O = List.zipWith (· ^^^ ·) la lb := by
  apply List.ext_getElem (by simp; omega)
  intro j hj1 hj2
  have := hOj j
  rw [if_pos (by omega), getD_lt' hj1, getD_lt' (by omega), getD_lt' (by omega)] at this
  rw [this]; simp
 subst hOe
 (refine At_seq (At_region ?_); refine s_lss ?_; refine AtR_nil (At_seq ?_); refine At_cond_f rfl ?_; refine At_exit rfl ?_; refine At_seq (At_region ?_); refine s_mv ?_; refine s_as ?_; refine AtR_nil ?_)
 refine At_ret1 Tryd.func138 rfl (by conv => lhs; whnf) ?_
 exact ⟨_, _, rfl, ho, hf1, K⟩
end Go.Proofs.YtfngacepjcdlnaaDoor
namespace Go.Proofs.YtfngacepjcdlnaaDoor
open Go Go.Kx
def mask32 : BitVec 64 := 4294967295
def mulT (X Y : BitVec 64) : BitVec 64 := (X >>> 32) * (Y &&& mask32) + ((X &&& mask32) * (Y &&& mask32)) >>> 32
def mulHi (X Y : BitVec 64) : BitVec 64 := (X >>> 32) * (Y >>> 32) + mulT X Y >>> 32 + ((mulT X Y &&& mask32) + (X &&& mask32) * (Y >>> 32)) >>> 32
set_option maxRecDepth 100000 in
theorem mul64_calls (X Y : BitVec 64) (w : World) :
  Calls Tryd.prog 154 #[.int .u64 (uw X), .int .u64 (uw Y)] w fun e w' => e = .returned (.tuple #[.int .u64 (uw (mulHi X Y)), .int .u64 (uw (X * Y))]) ∧ w = w' := by
 refine calls_at (n := 51) Tryd.func154 rfl rfl (by simp) ?_
 (refine At_seq (At_region ?_); refine s_as ?_; refine s_as ?_; refine AtR_nil (At_seq (At_region ?_)); refine s_mv ?_)
 refine s_val (x_andW (b := mask32) rfl rfl) ?_
 (refine s_as ?_; refine AtR_nil (At_seq (At_region ?_)); refine s_mv ?_; refine s_hr ?_; refine s_as ?_; refine AtR_nil (At_seq (At_region ?_)); refine s_mv ?_)
 refine s_val (x_andW (b := mask32) rfl rfl) ?_
 (refine s_as ?_; refine AtR_nil (At_seq (At_region ?_)); refine s_mv ?_; refine s_hr ?_; refine s_as ?_; refine AtR_nil (At_seq (At_region ?_)); refine s_mv ?_; refine s_mv ?_)
 refine s_val (x_mulW rfl rfl) ?_
 (refine s_as ?_; refine AtR_nil (At_seq (At_region ?_)); refine s_mv ?_; refine s_mv ?_)
 refine s_val (x_mulW rfl rfl) ?_
 (refine s_mv ?_; refine s_hr ?_; refine s_dw ?_; refine s_as ?_; refine AtR_nil (At_seq (At_region ?_)); refine s_mv ?_)
 refine s_val (x_andW (b := mask32) rfl rfl) ?_
 (refine s_as ?_; refine AtR_nil (At_seq (At_region ?_)); refine s_mv ?_; refine s_hr ?_; refine s_as ?_; refine AtR_nil (At_seq (At_region ?_)); refine s_mv ?_; refine s_mv ?_; refine s_mv ?_)
 refine s_val (x_mulW rfl rfl) ?_
 (refine s_dw ?_; refine s_as ?_; refine AtR_nil (At_seq (At_region ?_)); refine s_mv ?_; refine s_mv ?_)
 refine s_val (x_mulW rfl rfl) ?_
 (refine s_mv ?_; refine s_dw ?_; refine s_mv ?_; refine s_hr ?_; refine s_dw ?_; refine s_as ?_; refine AtR_nil (At_seq (At_region ?_)); refine s_mv ?_; refine s_mv ?_)
 refine s_val (x_mulW rfl rfl) ?_
 (refine s_as ?_; refine AtR_nil ?_)
 refine At_ret2 Tryd.func154 rfl (by conv => lhs; whnf) (by conv => lhs; whnf) ?_
 exact ⟨rfl, rfl⟩
set_option maxRecDepth 100000 in
theorem mul_calls (X Y : BitVec 64) (w : World) :
  Calls Tryd.prog 149 #[.int .u64 (uw X), .int .u64 (uw Y)] w fun e w' => e = .returned (.tuple #[.int .u64 (uw (mulHi X Y)), .int .u64 (uw (X * Y))]) ∧ w = w' := by
 refine calls_at (n := 30) Tryd.func149 rfl rfl (by simp) ?_
 (refine At_seq (At_region ?_); refine s_as ?_; refine s_as ?_; refine AtR_nil (At_seq ?_); refine At_cond_f rfl ?_; refine At_skip (At_seq (At_region ?_)); refine s_mv ?_; refine s_mv ?_)
 refine s_call x_call (mul64_calls X Y _) ?_
 rintro _ _ ⟨rfl, rfl⟩
 refine ⟨_, rfl, ?_⟩
 (refine s_mv ?_; refine s_ex ?_; refine s_ex ?_; refine s_as ?_; refine s_as ?_; refine AtR_nil (At_seq (At_region ?_)); refine s_mv ?_; refine s_mv ?_; refine s_as ?_; refine s_as ?_; refine AtR_nil ?_)
 refine At_ret2 Tryd.func149 rfl (by conv => lhs; whnf) (by conv => lhs; whnf) ?_
 exact ⟨rfl, rfl⟩
theorem rep_lay (c : UInt8) (m : Nat) (h : m + m ≤ 128) : lay (ints .u8 (bs8 (List.replicate m c ++ List.replicate (128 - m) 0))) m (ints .u8 (bs8 (List.replicate m c))) = ints .u8 (bs8 (List.replicate (m + m) c ++ List.replicate (128 - (m + m)) 0)) := by
 have h1 : ints .u8 (bs8 (List.replicate m c ++ List.replicate (128 - m) 0)) = List.replicate m (.int .u8 (ub c)) ++ List.replicate (128 - m) (.int .u8 0) := by simp [ints, bs8]; exact .inr rfl
 have h2 : ints .u8 (bs8 (List.replicate (m + m) c ++ List.replicate (128 - (m + m)) 0)) = List.replicate (m + m) (.int .u8 (ub c)) ++ List.replicate (128 - (m + m)) (.int .u8 0) := by simp [ints, bs8]; exact .inr rfl
 have h3 : ints .u8 (bs8 (List.replicate m c)) = List.replicate m (.int .u8 (ub c)) := by simp [ints, bs8]
 rw [h1, h2, h3, lay, List.take_left' (by simp), List.length_replicate, ← List.replicate_append_replicate]
 congr 1
 rw [List.drop_append]
 simp
 omega
set_option maxRecDepth 100000 in
set_option maxHeartbeats 2000000 in
theorem repeat_calls (c : UInt8) (a : Option Addr) (cap : Nat) (w : World) {D : Nat → Prop} (hs : SlE w .u8 a 1 cap (bs8 [c]) D) :
  Calls Tryd.prog 140 #[.slice a 1 cap, .int .i64 128] w
   fun e w' => ∃ b, e = .returned (.slice (some ⟨b, 0, none⟩) 128 128) ∧ Blk w' b 5 (0, 0) (ints .u8 (bs8 (List.replicate 128 c))) ∧ w.heap.size ≤ b ∧ Kp No w w' := by
 have hca := hs.le
 rcases hs.mem with h | ⟨ba, oa, rfl, hlta, hDa, hsa⟩
 ·omega
 refine calls_at (n := 48) Tryd.func140 rfl rfl (by simp) ?_
 (refine At_seq (At_region ?_); refine s_as ?_; refine AtR_nil (At_seq (At_seq (At_region ?_))); refine s_mv ?_; refine s_lss ?_; refine AtR_nil ?_; refine At_cond_f rfl ?_; refine At_skip (At_seq (At_region ?_)); refine s_mv ?_; refine s_ln ?_; refine s_cv ?_; refine s_mv ?_; refine s_cv ?_)
 rw [wrap_nat]
 rw [show IntKind.u64.wrap 128 = uw (BitVec.ofNat 64 128) by decide]
 refine s_call x_call (mul_calls _ _ _) ?_
 rintro _ _ ⟨rfl, rfl⟩
 refine ⟨_, rfl, ?_⟩
 rw [show uw (mulHi (BitVec.ofNat 64 1) (BitVec.ofNat 64 128)) = 0 by decide, show uw (BitVec.ofNat 64 1 * BitVec.ofNat 64 128) = 128 by decide]
 (refine s_mv ?_; refine s_ex ?_; refine s_ex ?_; refine s_as ?_; refine s_as ?_; refine AtR_nil (At_seq (At_seq (At_region ?_))); refine s_mv ?_; refine s_gtr ?_; refine s_mv ?_; refine s_yes rfl rfl rfl rfl ?_; refine g_mv ?_; refine s_yes rfl rfl rfl rfl ?_; refine g_gtr ?_; refine s_pf ?_; refine AtR_nil ?_; refine At_cond_f rfl ?_; refine At_skip (At_seq (At_region ?_)); refine s_mv ?_; refine s_cv ?_)
 refine AtR_go rfl (AtG_make1 (z := .int .u8 0) rfl rfl (by omega) (by omega) rfl (by omega) (by omega) fun b w1 hb e1 => ?_)
 have B1 : Blk w1 b 5 (0, 0) (ints .u8 (bs8 (List.replicate 128 0))) := e1.blk
 have K1 : Kp No w w1 := e1.kp (.inr (by omega))
 have hs1 : Seg w1 ba oa (ints .u8 (bs8 [c])) := hsa.kp K1 id hlta
 clear e1
 (refine s_as ?_; refine AtR_nil (At_seq (At_region ?_)); refine s_mv ?_; refine s_mv ?_)
 refine AtR_go rfl (G_val (r_copy (off := 0) rfl rfl rfl B1 (by simp) hs1 (ints_one _ _)) ?_)
 rintro _ w2 ⟨rfl, e2⟩
 have B2 : Blk w2 b 5 (0, 0) (ints .u8 (bs8 (List.replicate 1 c ++ List.replicate (128 - 1) 0))) := e2.blk
 have K2 : Kp No w w2 := K1.trans' (e2.kp (S := fun j => j = b) (.inl rfl)) (by rintro j rfl; right; omega)
 clear e2 B1 K1
 (refine s_as ?_; refine AtR_nil (At_seq ?_); refine At_block ?_)
 refine At_while (fun m : Nat => [(7, .slice (some ⟨b, 0, none⟩) 128 128), (8, .int .i64 (m : Int))])
  (fun m w' => (m = 1 ∨ m = 2 ∨ m = 4 ∨ m = 8 ∨ m = 16 ∨ m = 32 ∨ m = 64 ∨ m = 128) ∧ Blk w' b 5 (0, 0) (ints .u8 (bs8 (List.replicate m c ++ List.replicate (128 - m) 0))) ∧ Kp No w w') (fun m => 128 - m) 1 ⟨rfl, rfl, trivial⟩
  ⟨by omega, B2, K2⟩ ?_
 clear B2 K2
 rintro m w3 junk ⟨hm, B, K⟩ again
 by_cases hlt : m < 128
 ·have kd := Kp.drew (S := No) (w := w3)
  have hsp : ∀ ad : Addr, some (⟨b, 0, none⟩ : Addr) = some ad → ad.spot = none := by rintro _ ⟨⟩; rfl
  have B3 := B.kp kd id
  have hseg : Seg w3.drew b 0 (ints .u8 (bs8 (List.replicate m c))) := fun j hj => by
   rw [Nat.zero_add, B3.cell]
   have : ints .u8 (bs8 (List.replicate m c ++ List.replicate (128 - m) 0)) = ints .u8 (bs8 (List.replicate m c)) ++ ints .u8 (bs8 (List.replicate (128 - m) 0)) := by simp [ints, bs8]
   rw [this, List.getElem?_append_left hj]
  (refine At_seq (At_seq (At_region ?_)); refine s_mv ?_; refine s_mv ?_; refine s_ln ?_; refine s_lss ?_; refine AtR_nil ?_; refine At_cond_t rfl ?_; refine At_skip (At_block ?_))
  refine At_draw (fun _ => True) rfl ?_
  have hS : True := trivial
  (apply AtH_take 0 rfl (by decide +kernel) (by first | exact rfl | exact ⟨_, _, rfl, by decide, rfl, rfl⟩); (focus (intro wx hx; skip; first | exact x_len_str rfl | exact x_xorW rfl rfl | exact x_andW rfl rfl | exact x_orW rfl rfl | exact x_addW rfl rfl | exact x_load_bw rfl (by assumption) (by omega) | exact x_load_sw rfl (by assumption) (by omega) | exact x_load_bb rfl (by assumption) (by omega) | exact x_load_sb rfl (by assumption) (by omega) | exact x_indexAddrA rfl rfl (by omega) | exact x_indexAddrI rfl rfl (by omega) (by omega) | exact x_quoI rfl rfl (by omega) (by omega) (by omega) | exact x_remI rfl rfl (by omega) (by omega) | exact x_mul64 rfl rfl (by omega) (by omega) | exact x_shlW rfl rfl (by omega) | exact x_shrW rfl rfl (by omega) | exact x_conv_bw rfl | exact x_conv_wb rfl | exact x_neg64 rfl (by omega) (by omega) | exact x_xorB rfl rfl | exact x_slice_arr rfl | exact x_slice_arr_l rfl rfl (by omega) | exact x_slice_arr_h rfl rfl (by omega) | exact x_notW rfl | exact x_move (by conv => lhs; whnf) | exact x_assign (by conv => lhs; whnf) | exact x_pick_t rfl (by conv => lhs; whnf) | exact x_pick_f rfl (by conv => lhs; whnf) | exact x_not rfl | exact x_extract rfl rfl | exact x_nilCheck rfl | exact x_load_ints rfl (by assumption) (by omega) | exact x_load_bints rfl (by assumption) (by omega) | exact x_load_flw rfl (by assumption) (by assumption) rfl | exact x_load1 rfl (by assumption) rfl | exact x_load_fl rfl (by assumption) rfl (by assumption) rfl | exact x_load_fl1 rfl (by assumption) rfl (by assumption) | exact x_indexAddrN1 rfl rfl (by omega) | exact x_slice_hN rfl (by assumption) rfl (by omega) | exact x_indexAddr1 rfl rfl (by omega) (by omega) | exact x_add64 rfl rfl (by omega) (by omega) | exact x_sub64 rfl rfl (by omega) (by omega) | exact x_len_slice rfl | exact x_len_string rfl | exact x_fieldAddrN rfl (by first | exact Nat.zero_add _ | exact Nat.add_zero _ | (simp only [Nat.reduceAdd] <;> rfl) | exact rfl))); (focus (exact hS)))
  (apply AtH_take 1 rfl (by decide +kernel) (by first | exact rfl | exact ⟨_, _, rfl, by decide, rfl, rfl⟩); (focus (intro wx hx; skip; first | exact x_len_str rfl | exact x_xorW rfl rfl | exact x_andW rfl rfl | exact x_orW rfl rfl | exact x_addW rfl rfl | exact x_load_bw rfl (by assumption) (by omega) | exact x_load_sw rfl (by assumption) (by omega) | exact x_load_bb rfl (by assumption) (by omega) | exact x_load_sb rfl (by assumption) (by omega) | exact x_indexAddrA rfl rfl (by omega) | exact x_indexAddrI rfl rfl (by omega) (by omega) | exact x_quoI rfl rfl (by omega) (by omega) (by omega) | exact x_remI rfl rfl (by omega) (by omega) | exact x_mul64 rfl rfl (by omega) (by omega) | exact x_shlW rfl rfl (by omega) | exact x_shrW rfl rfl (by omega) | exact x_conv_bw rfl | exact x_conv_wb rfl | exact x_neg64 rfl (by omega) (by omega) | exact x_xorB rfl rfl | exact x_slice_arr rfl | exact x_slice_arr_l rfl rfl (by omega) | exact x_slice_arr_h rfl rfl (by omega) | exact x_notW rfl | exact x_move (by conv => lhs; whnf) | exact x_assign (by conv => lhs; whnf) | exact x_pick_t rfl (by conv => lhs; whnf) | exact x_pick_f rfl (by conv => lhs; whnf) | exact x_not rfl | exact x_extract rfl rfl | exact x_nilCheck rfl | exact x_load_ints rfl (by assumption) (by omega) | exact x_load_bints rfl (by assumption) (by omega) | exact x_load_flw rfl (by assumption) (by assumption) rfl | exact x_load1 rfl (by assumption) rfl | exact x_load_fl rfl (by assumption) rfl (by assumption) rfl | exact x_load_fl1 rfl (by assumption) rfl (by assumption) | exact x_indexAddrN1 rfl rfl (by omega) | exact x_slice_hN rfl (by assumption) rfl (by omega) | exact x_indexAddr1 rfl rfl (by omega) (by omega) | exact x_add64 rfl rfl (by omega) (by omega) | exact x_sub64 rfl rfl (by omega) (by omega) | exact x_len_slice rfl | exact x_len_string rfl | exact x_fieldAddrN rfl (by first | exact Nat.zero_add _ | exact Nat.add_zero _ | (simp only [Nat.reduceAdd] <;> rfl) | exact rfl))); (focus (exact hS)))
  (apply AtH_take 2 rfl (by decide +kernel) (by first | exact rfl | exact ⟨_, _, rfl, by decide, rfl, rfl⟩); (focus (intro wx hx; skip; first | exact x_len_str rfl | exact x_xorW rfl rfl | exact x_andW rfl rfl | exact x_orW rfl rfl | exact x_addW rfl rfl | exact x_load_bw rfl (by assumption) (by omega) | exact x_load_sw rfl (by assumption) (by omega) | exact x_load_bb rfl (by assumption) (by omega) | exact x_load_sb rfl (by assumption) (by omega) | exact x_indexAddrA rfl rfl (by omega) | exact x_indexAddrI rfl rfl (by omega) (by omega) | exact x_quoI rfl rfl (by omega) (by omega) (by omega) | exact x_remI rfl rfl (by omega) (by omega) | exact x_mul64 rfl rfl (by omega) (by omega) | exact x_shlW rfl rfl (by omega) | exact x_shrW rfl rfl (by omega) | exact x_conv_bw rfl | exact x_conv_wb rfl | exact x_neg64 rfl (by omega) (by omega) | exact x_xorB rfl rfl | exact x_slice_arr rfl | exact x_slice_arr_l rfl rfl (by omega) | exact x_slice_arr_h rfl rfl (by omega) | exact x_notW rfl | exact x_move (by conv => lhs; whnf) | exact x_assign (by conv => lhs; whnf) | exact x_pick_t rfl (by conv => lhs; whnf) | exact x_pick_f rfl (by conv => lhs; whnf) | exact x_not rfl | exact x_extract rfl rfl | exact x_nilCheck rfl | exact x_load_ints rfl (by assumption) (by omega) | exact x_load_bints rfl (by assumption) (by omega) | exact x_load_flw rfl (by assumption) (by assumption) rfl | exact x_load1 rfl (by assumption) rfl | exact x_load_fl rfl (by assumption) rfl (by assumption) rfl | exact x_load_fl1 rfl (by assumption) rfl (by assumption) | exact x_indexAddrN1 rfl rfl (by omega) | exact x_slice_hN rfl (by assumption) rfl (by omega) | exact x_indexAddr1 rfl rfl (by omega) (by omega) | exact x_add64 rfl rfl (by omega) (by omega) | exact x_sub64 rfl rfl (by omega) (by omega) | exact x_len_slice rfl | exact x_len_string rfl | exact x_fieldAddrN rfl (by first | exact Nat.zero_add _ | exact Nat.add_zero _ | (simp only [Nat.reduceAdd] <;> rfl) | exact rfl))); (focus (exact hS)))
  (apply AtH_take 4 rfl (by decide +kernel) (by first | exact rfl | exact ⟨_, _, rfl, by decide, rfl, rfl⟩); (focus (intro wx hx; skip; first | exact x_len_str rfl | exact x_xorW rfl rfl | exact x_andW rfl rfl | exact x_orW rfl rfl | exact x_addW rfl rfl | exact x_load_bw rfl (by assumption) (by omega) | exact x_load_sw rfl (by assumption) (by omega) | exact x_load_bb rfl (by assumption) (by omega) | exact x_load_sb rfl (by assumption) (by omega) | exact x_indexAddrA rfl rfl (by omega) | exact x_indexAddrI rfl rfl (by omega) (by omega) | exact x_quoI rfl rfl (by omega) (by omega) (by omega) | exact x_remI rfl rfl (by omega) (by omega) | exact x_mul64 rfl rfl (by omega) (by omega) | exact x_shlW rfl rfl (by omega) | exact x_shrW rfl rfl (by omega) | exact x_conv_bw rfl | exact x_conv_wb rfl | exact x_neg64 rfl (by omega) (by omega) | exact x_xorB rfl rfl | exact x_slice_arr rfl | exact x_slice_arr_l rfl rfl (by omega) | exact x_slice_arr_h rfl rfl (by omega) | exact x_notW rfl | exact x_move (by conv => lhs; whnf) | exact x_assign (by conv => lhs; whnf) | exact x_pick_t rfl (by conv => lhs; whnf) | exact x_pick_f rfl (by conv => lhs; whnf) | exact x_not rfl | exact x_extract rfl rfl | exact x_nilCheck rfl | exact x_load_ints rfl (by assumption) (by omega) | exact x_load_bints rfl (by assumption) (by omega) | exact x_load_flw rfl (by assumption) (by assumption) rfl | exact x_load1 rfl (by assumption) rfl | exact x_load_fl rfl (by assumption) rfl (by assumption) rfl | exact x_load_fl1 rfl (by assumption) rfl (by assumption) | exact x_indexAddrN1 rfl rfl (by omega) | exact x_slice_hN rfl (by assumption) rfl (by omega) | exact x_indexAddr1 rfl rfl (by omega) (by omega) | exact x_add64 rfl rfl (by omega) (by omega) | exact x_sub64 rfl rfl (by omega) (by omega) | exact x_len_slice rfl | exact x_len_string rfl | exact x_fieldAddrN rfl (by first | exact Nat.zero_add _ | exact Nat.add_zero _ | (simp only [Nat.reduceAdd] <;> rfl) | exact rfl))); (focus (exact hS)))
  (apply AtH_take 5 rfl (by decide +kernel) (by first | exact rfl | exact ⟨_, _, rfl, by decide, rfl, rfl⟩); (focus (intro wx hx; skip; first | exact x_len_str rfl | exact x_xorW rfl rfl | exact x_andW rfl rfl | exact x_orW rfl rfl | exact x_addW rfl rfl | exact x_load_bw rfl (by assumption) (by omega) | exact x_load_sw rfl (by assumption) (by omega) | exact x_load_bb rfl (by assumption) (by omega) | exact x_load_sb rfl (by assumption) (by omega) | exact x_indexAddrA rfl rfl (by omega) | exact x_indexAddrI rfl rfl (by omega) (by omega) | exact x_quoI rfl rfl (by omega) (by omega) (by omega) | exact x_remI rfl rfl (by omega) (by omega) | exact x_mul64 rfl rfl (by omega) (by omega) | exact x_shlW rfl rfl (by omega) | exact x_shrW rfl rfl (by omega) | exact x_conv_bw rfl | exact x_conv_wb rfl | exact x_neg64 rfl (by omega) (by omega) | exact x_xorB rfl rfl | exact x_slice_arr rfl | exact x_slice_arr_l rfl rfl (by omega) | exact x_slice_arr_h rfl rfl (by omega) | exact x_notW rfl | exact x_move (by conv => lhs; whnf) | exact x_assign (by conv => lhs; whnf) | exact x_pick_t rfl (by conv => lhs; whnf) | exact x_pick_f rfl (by conv => lhs; whnf) | exact x_not rfl | exact x_extract rfl rfl | exact x_nilCheck rfl | exact x_load_ints rfl (by assumption) (by omega) | exact x_load_bints rfl (by assumption) (by omega) | exact x_load_flw rfl (by assumption) (by assumption) rfl | exact x_load1 rfl (by assumption) rfl | exact x_load_fl rfl (by assumption) rfl (by assumption) rfl | exact x_load_fl1 rfl (by assumption) rfl (by assumption) | exact x_indexAddrN1 rfl rfl (by omega) | exact x_slice_hN rfl (by assumption) rfl (by omega) | exact x_indexAddr1 rfl rfl (by omega) (by omega) | exact x_add64 rfl rfl (by omega) (by omega) | exact x_sub64 rfl rfl (by omega) (by omega) | exact x_len_slice rfl | exact x_len_string rfl | exact x_fieldAddrN rfl (by first | exact Nat.zero_add _ | exact Nat.add_zero _ | (simp only [Nat.reduceAdd] <;> rfl) | exact rfl))); (focus (exact hS)))
  refine AtH_take 3 rfl (by decide +kernel) rfl (fun wx hx => x_slice_l rfl rfl (by omega) (by omega) (by omega)) hS ?_
  refine AtH_take 6 rfl (by decide +kernel) rfl (fun wx hx => x_slice_hN rfl hsp rfl (by omega)) hS ?_
  refine H_val 7 rfl (by decide +kernel) rfl (r_copy (vs := ints .u8 (bs8 (List.replicate m c))) rfl rfl (by simp; omega) B3 (by simp; omega) hseg (ints_one _ _)) ?_
  rintro _ w5 ⟨rfl, e5⟩
  have B5 : Blk w5 b 5 (0, 0) (ints .u8 (bs8 (List.replicate (m + m) c ++ List.replicate (128 - (m + m)) 0))) := by
   have := e5.blk
   rw [show 0 + (m : Int).toNat * 1 = m by omega, rep_lay c m (by omega)] at this
   exact this
  have K5 := (K.trans kd).trans' (e5.kp (S := fun j => j = b) (.inl rfl)) (by rintro j rfl; right; omega)
  refine ⟨trivial, ?_⟩
  rw [show ((min m (128 - (m : Int).toNat) : Nat) : Int) = m by omega]
  (apply AtH_take 8 rfl (by decide +kernel) (by first | exact rfl | exact ⟨_, _, rfl, by decide, rfl, rfl⟩); (focus (intro wx hx; skip; first | exact x_len_str rfl | exact x_xorW rfl rfl | exact x_andW rfl rfl | exact x_orW rfl rfl | exact x_addW rfl rfl | exact x_load_bw rfl (by assumption) (by omega) | exact x_load_sw rfl (by assumption) (by omega) | exact x_load_bb rfl (by assumption) (by omega) | exact x_load_sb rfl (by assumption) (by omega) | exact x_indexAddrA rfl rfl (by omega) | exact x_indexAddrI rfl rfl (by omega) (by omega) | exact x_quoI rfl rfl (by omega) (by omega) (by omega) | exact x_remI rfl rfl (by omega) (by omega) | exact x_mul64 rfl rfl (by omega) (by omega) | exact x_shlW rfl rfl (by omega) | exact x_shrW rfl rfl (by omega) | exact x_conv_bw rfl | exact x_conv_wb rfl | exact x_neg64 rfl (by omega) (by omega) | exact x_xorB rfl rfl | exact x_slice_arr rfl | exact x_slice_arr_l rfl rfl (by omega) | exact x_slice_arr_h rfl rfl (by omega) | exact x_notW rfl | exact x_move (by conv => lhs; whnf) | exact x_assign (by conv => lhs; whnf) | exact x_pick_t rfl (by conv => lhs; whnf) | exact x_pick_f rfl (by conv => lhs; whnf) | exact x_not rfl | exact x_extract rfl rfl | exact x_nilCheck rfl | exact x_load_ints rfl (by assumption) (by omega) | exact x_load_bints rfl (by assumption) (by omega) | exact x_load_flw rfl (by assumption) (by assumption) rfl | exact x_load1 rfl (by assumption) rfl | exact x_load_fl rfl (by assumption) rfl (by assumption) rfl | exact x_load_fl1 rfl (by assumption) rfl (by assumption) | exact x_indexAddrN1 rfl rfl (by omega) | exact x_slice_hN rfl (by assumption) rfl (by omega) | exact x_indexAddr1 rfl rfl (by omega) (by omega) | exact x_add64 rfl rfl (by omega) (by omega) | exact x_sub64 rfl rfl (by omega) (by omega) | exact x_len_slice rfl | exact x_len_string rfl | exact x_fieldAddrN rfl (by first | exact Nat.zero_add _ | exact Nat.add_zero _ | (simp only [Nat.reduceAdd] <;> rfl) | exact rfl))); (focus (exact hS)))
  (apply AtH_take 9 rfl (by decide +kernel) (by first | exact rfl | exact ⟨_, _, rfl, by decide, rfl, rfl⟩); (focus (intro wx hx; skip; first | exact x_len_str rfl | exact x_xorW rfl rfl | exact x_andW rfl rfl | exact x_orW rfl rfl | exact x_addW rfl rfl | exact x_load_bw rfl (by assumption) (by omega) | exact x_load_sw rfl (by assumption) (by omega) | exact x_load_bb rfl (by assumption) (by omega) | exact x_load_sb rfl (by assumption) (by omega) | exact x_indexAddrA rfl rfl (by omega) | exact x_indexAddrI rfl rfl (by omega) (by omega) | exact x_quoI rfl rfl (by omega) (by omega) (by omega) | exact x_remI rfl rfl (by omega) (by omega) | exact x_mul64 rfl rfl (by omega) (by omega) | exact x_shlW rfl rfl (by omega) | exact x_shrW rfl rfl (by omega) | exact x_conv_bw rfl | exact x_conv_wb rfl | exact x_neg64 rfl (by omega) (by omega) | exact x_xorB rfl rfl | exact x_slice_arr rfl | exact x_slice_arr_l rfl rfl (by omega) | exact x_slice_arr_h rfl rfl (by omega) | exact x_notW rfl | exact x_move (by conv => lhs; whnf) | exact x_assign (by conv => lhs; whnf) | exact x_pick_t rfl (by conv => lhs; whnf) | exact x_pick_f rfl (by conv => lhs; whnf) | exact x_not rfl | exact x_extract rfl rfl | exact x_nilCheck rfl | exact x_load_ints rfl (by assumption) (by omega) | exact x_load_bints rfl (by assumption) (by omega) | exact x_load_flw rfl (by assumption) (by assumption) rfl | exact x_load1 rfl (by assumption) rfl | exact x_load_fl rfl (by assumption) rfl (by assumption) rfl | exact x_load_fl1 rfl (by assumption) rfl (by assumption) | exact x_indexAddrN1 rfl rfl (by omega) | exact x_slice_hN rfl (by assumption) rfl (by omega) | exact x_indexAddr1 rfl rfl (by omega) (by omega) | exact x_add64 rfl rfl (by omega) (by omega) | exact x_sub64 rfl rfl (by omega) (by omega) | exact x_len_slice rfl | exact x_len_string rfl | exact x_fieldAddrN rfl (by first | exact Nat.zero_add _ | exact Nat.add_zero _ | (simp only [Nat.reduceAdd] <;> rfl) | exact rfl))); (focus (exact hS)))
  refine AtH_done (by decide +kernel) ?_
  (refine At_inBlock ?_)
  refine again (m + m) _ _ ⟨rfl, ?_, trivial⟩ ⟨by omega, B5, K5⟩ (by omega)
  show Value.int .i64 ((m : Int) + (m : Int)) = .int .i64 ((m + m : Nat) : Int)
  congr 1
 have hme : m = 128 := by omega
 subst hme
 clear again
 have B' : Blk w3 b 5 (0, 0) (ints .u8 (bs8 (List.replicate 128 c))) := by simpa using B
 (refine At_seq (At_seq (At_region ?_)); refine s_mv ?_; refine s_mv ?_; refine s_ln ?_; refine s_lss ?_; refine AtR_nil ?_; refine At_cond_f rfl ?_; refine At_exit rfl ?_; refine At_seq (At_region ?_); refine s_mv ?_; refine s_as ?_; refine AtR_nil ?_)
 refine At_ret1 Tryd.func140 rfl (by conv => lhs; whnf) ?_
 exact ⟨b, rfl, B', by omega, K⟩
end Go.Proofs.YtfngacepjcdlnaaDoor
