/- hmac of the program, given that its sha512.Sum is SHA-512: a key in a block. | hmac of the program, given that its sha512.Sum is SHA-512. | The real oracle's Seal, given that sha512.Sum is SHA-512. | The real oracle's Derive, given that sha512.Sum is SHA-512. | The reference's Derive of the keyring; a real oracle; an empty ring. | slices.Chunk: the iterator. | SHA-512 of the program: a text. -/
import Derived.Test.YtfngacepjcdlnaaDoorQHd
import Derived.Test.YtfngacepjcdlnaaDoorQHa
import Derived.Test.YtfngacepjcdlnaaDoorQKb
set_option linter.unusedVariables false
namespace Go.Proofs.YtfngacepjcdlnaaDoor
open Go Go.Kx
def SumOk : Prop := ∀ (ps : List Pc) (a : Option Addr) (len cap : Nat) (w : World) (fz : Nat × Nat) (D : Nat → Prop), SlP w a len cap ps D → (flat ps).length ≤ 17592186044416 → Blk w 1 243 fz (ints .u64 (ws kSha)) →
 Calls Tryd.prog 124 #[.slice a len cap] w fun e w' => e = .returned (.agg (ints .u8 (bs8 (sha (flat ps)))).toArray) ∧ Kp No w w'
theorem padX_eq (k : List UInt8) (c : UInt8) (h : k.length ≤ 128) : List.zipWith (· ^^^ ·) (fillTo k 128) (List.replicate 128 c) = padX k c := by
 have h1 := fillTo_length k 128 h
 apply List.ext_getElem (by simp [padX, h1])
 intro j hj1 hj2
 have hj : j < 128 := by simpa [padX] using hj2
 simp only [List.getElem_zipWith, List.getElem_replicate, padX, List.getElem_map, List.getElem_range]
 congr 1
 simp only [fillTo, List.getElem_append]
 split
 ·rename_i hlt; simp [List.getD, hlt]
 ·rename_i hge; simp [List.getD, show k.length ≤ j by omega]
theorem keyOf_length (k : List UInt8) : (keyOf k).length ≤ 128 := by
 unfold keyOf
 split
 ·rw [sha_length]; omega
 ·omega
theorem slp_one {w : World} {b : Nat} {p : Pc} (hB : Blk w b 31 (0, 0) [pcV p]) (hp : SlE w .u8 p.a p.len p.cap (bs8 p.xs) fun _ => True) : SlP w (some ⟨b, 0, none⟩) 1 1 [p] fun _ => True :=
 ⟨rfl, Nat.le_refl _, by omega, .inr ⟨b, 0, rfl, hB.lt, trivial, fun j hj => by rw [Nat.zero_add, hB.cell]; rfl⟩, fun q hq => by rw [List.mem_singleton] at hq; subst hq; exact hp⟩
theorem SlE.all {w : World} {k : IntKind} {a : Option Addr} {len cap : Nat} {xs : List Int} {D : Nat → Prop} (h : SlE w k a len cap xs D) : SlE w k a len cap xs fun _ => True := h.mono fun _ _ _ => trivial
set_option maxRecDepth 100000 in
set_option maxHeartbeats 2000000 in
theorem padded_calls (hSum : SumOk) (kx : List UInt8) (c : UInt8) (a : Option Addr) (len cap : Nat) (w : World) {fz : Nat × Nat} {D : Nat → Prop} (hs : SlE w .u8 a len cap (bs8 kx) D) (hn : a = none → len = 0) (hb : len ≤ 17592186044416) (hG : Blk w 1 243 fz (ints .u64 (ws kSha))) :
  Calls Tryd.prog 125 #[.slice a len cap, .int .u8 (ub c)] w
   fun e w' => ∃ a' cap', e = .returned (.slice a' 128 cap') ∧ Own w' 5 1 a' 128 cap' (ints .u8 (bs8 (padX (keyOf kx) c))) ∧ (∀ j, blkOf a' j → w.heap.size ≤ j) ∧ Kp No w w' := by
 have hl := hs.len_eq
 simp only [bs8_length] at hl
 have hk8 := keyOf_length kx
 refine calls_at (n := 19) Tryd.func125 rfl rfl (by simp) ?_
 (refine At_seq (At_region ?_); refine s_as ?_; refine AtR_nil (At_seq (At_seq (At_region ?_))); refine s_mv ?_; refine s_ln ?_)
 refine s_val (x_gtr rfl rfl) ?_
 generalize hd : decide ((len : Int) > 128) = bv
 (refine AtR_nil ?_)
 refine At_meet (σ := Option Addr × Nat × Nat) (fun s => [(0, .slice s.1 s.2.1 s.2.2), (1, .int .u8 (ub c))]) (fun s w' => SlE w' .u8 s.1 s.2.1 s.2.2 (bs8 (keyOf kx)) (fun _ => True) ∧ (s.1 = none → s.2.1 = 0) ∧ Kp No w w') ?_ ?_
 ·rintro ⟨a1, len1, cap1⟩ w1 junk ⟨hs1, hn1, K1⟩
  simp only at hs1 hn1
  have hl1 := hs1.len_eq
  simp only [bs8_length] at hl1
  (refine At_seq (At_region ?_); refine s_mv ?_)
  refine s_call x_call (ofill_calls (keyOf kx) a1 len1 cap1 128 _ hs1 hn1 (by omega) (by omega)) ?_
  rintro _ w2 ⟨a2, cap2, rfl, ho2, hf2, k2⟩
  refine ⟨_, rfl, ?_⟩
  (refine s_mv ?_)
  refine AtR_go rfl (AtG_buildSlice1 (ops := [_]) rfl rfl (by omega) rfl rfl rfl fun b3 w3 hb3 e3 => ?_)
  have B3 : Blk w3 b3 5 (0, 0) (ints .u8 (bs8 [c])) := e3.blk
  have k3 : Kp No w2 w3 := e3.kp (.inr (by omega))
  clear e3
  refine s_call x_call (repeat_calls c _ _ _ (D := fun _ => True) ((B3.sl (m := 1) rfl (by omega)).e fun _ _ => trivial)) ?_
  rintro _ w4 ⟨b4, rfl, B4, hb4, k4⟩
  refine ⟨_, rfl, ?_⟩
  have K4 := ((K1.trans k2).trans k3).trans k4
  refine s_call x_call (xor_calls (fillTo (keyOf kx) 128) (List.replicate 128 c) a2 cap2 _ 128 128 _ (D := fun _ => True) (D' := fun _ => True) (((ho2.kp k3 (fun _ _ => id)).kp k4 (fun _ _ => id)).sl.e fun _ _ => trivial) ((B4.sl (m := 128) (by simp) (by omega)).e fun _ _ => trivial) (by omega) (by omega)) ?_
  rintro _ w5 ⟨a5, cap5, rfl, ho5, hf5, k5⟩
  refine ⟨_, rfl, ?_⟩
  (refine s_as ?_; refine AtR_nil ?_)
  refine At_ret1 Tryd.func125 rfl (by conv => lhs; whnf) ?_
  rw [padX_eq _ _ hk8] at ho5
  exact ⟨a5, cap5, rfl, ho5, fun j hj => Nat.le_trans K4.size (hf5 j hj), K4.trans k5⟩
 ·intro join
  cases bv with
  | true =>
   have h128 : 128 < kx.length := by have := of_decide_eq_true hd; omega
   have e : keyOf kx = sha kx := by rw [keyOf, if_pos h128]
   (refine At_cond_t rfl ?_)
   refine At_seq ?_
   (refine At_region ?_; refine s_mv ?_)
   refine AtR_go rfl (AtG_buildSlice1 (ops := [_]) rfl rfl (by omega) rfl rfl rfl fun b1 w1 hb1 e1 => ?_)
   have B1 : Blk w1 b1 31 (0, 0) [pcV ⟨a, len, cap, kx⟩] := e1.blk
   have K1 : Kp No w w1 := e1.kp (.inr (by omega))
   clear e1
   refine s_call x_call (hSum [⟨a, len, cap, kx⟩] _ _ _ _ _ _ (slp_one B1 (SlE.all (hs.kpn K1))) (by simp [flat]; omega) (hG.kp K1 id)) ?_
   rintro _ w2 ⟨rfl, k2⟩
   refine ⟨_, rfl, ?_⟩
   rw [show flat [⟨a, len, cap, kx⟩] = kx by simp [flat]]
   refine AtR_go rfl (AtG_alloc fun b3 w3 hb3 e3 => ?_)
   have hsl := sha_length kx
   refine AtR_go rfl (G_skip (r_store_all (s := 64) rfl rfl e3.blk (by simp [hsl]) rfl (ints_one _ _)) fun w4 e4 => ?_)
   have B4 := e4.blk
   have K4 : Kp No w w4 := ((K1.trans k2).trans (e3.kp (.inr (by omega)))).trans' (e4.kp (S := fun j => j = b3) (.inl rfl)) (by rintro j rfl; right; have := K1.size; have := k2.size; omega)
   (refine AtR_nil (At_region ?_))
   refine s_val (x_slice_arr (m := 64) rfl) ?_
   (refine s_as ?_; refine AtR_nil ?_)
   refine join (some ⟨b3, 0, none⟩, 64, 64) _ _ ⟨rfl, rfl, trivial⟩ ⟨?_, fun h => (by cases h), K4⟩
   rw [e]
   exact (B4.sl (m := 64) (by simp [hsl]) (by omega)).e fun _ _ => trivial
  | false =>
   have h128 : ¬ 128 < kx.length := by have := of_decide_eq_false hd; omega
   have e : keyOf kx = kx := by rw [keyOf, if_neg h128]
   (refine At_cond_f rfl ?_; refine At_skip ?_)
   exact join (a, len, cap) _ _ ⟨rfl, rfl, trivial⟩ ⟨by rw [e]; exact SlE.all hs, hn, Kp.refl _ _⟩
end Go.Proofs.YtfngacepjcdlnaaDoor
namespace Go.Proofs.YtfngacepjcdlnaaDoor
open Go Go.Kx
theorem SlP.src {w : World} {a : Option Addr} {len cap : Nat} {ps : List Pc} {D : Nat → Prop} {T E : TypeId} (h : SlP w a len cap ps D) (hT : Tryd.prog.underlying T = some (.slice E)) : Src Tryd.prog 1 T (.slice a len cap) len (ps.map pcV) w := by
 have hl := h.len_eq
 rcases h.mem with hc | ⟨b, off, rfl, hlt, _, hs⟩
 ·have : len = 0 := by have := h.le; omega
  subst this
  have : ps = [] := List.eq_nil_of_length_eq_zero hl
  subst this
  cases a with
  | none => exact Src.ofNil w hT cap
  | some a => exact Src.ofSlice w hT a 0 cap [] (by simp) (fun j u hj => by simp at hj) (fun u hu => by cases hu)
 ·refine Src.ofSlice w hT ⟨b, off, none⟩ len cap (ps.map pcV) (by simp [hl]) (fun j u hj => ?_) (fun u hu => ?_)
  ·rw [add_none, hs j (List.getElem?_eq_some_iff.1 hj).1, hj]
  ·simp only [List.mem_map] at hu
   obtain ⟨x, _, rfl⟩ := hu
   rfl
theorem own_slp {w : World} {a : Option Addr} {m cap : Nat} {ps : List Pc} (h : Own w 31 1 a m cap (ps.map pcV)) (hi : ∀ p ∈ ps, SlE w .u8 p.a p.len p.cap (bs8 p.xs) fun _ => True) : SlP w a m cap ps fun _ => True := by
 obtain ⟨h1, h2, h3, h4⟩ := h
 refine ⟨by simpa using h1, h2, by simpa [maxLen] using h3, ?_, hi⟩
 rcases h4 with ⟨_, h⟩ | ⟨b, sp, rfl, hB, hl⟩
 ·exact .inl h
 ·exact .inr ⟨b, 0, rfl, hB.lt, trivial, fun j hj => by rw [Nat.zero_add, hB.cell, List.getElem?_append_left hj]⟩
theorem slp_blk {w : World} {b : Nat} {ps : List Pc} {m : Nat} (h : Blk w b 31 (0, 0) (ps.map pcV)) (hm : ps.length = m) (hx : m ≤ maxLen) (hi : ∀ p ∈ ps, SlE w .u8 p.a p.len p.cap (bs8 p.xs) fun _ => True) : SlP w (some ⟨b, 0, none⟩) m m ps fun _ => True :=
 own_slp (Blk.own h (by simpa using hm) hx) hi
set_option maxRecDepth 100000 in
set_option maxHeartbeats 4000000 in
theorem hmacP_calls (hSum : SumOk) (kx : List UInt8) (ps : List Pc) (ak : Option Addr) (lenk capk : Nat) (ab : Option Addr) (lenb capb : Nat) (w : World) {fz : Nat × Nat} {D : Nat → Prop} (hk : SlE w .u8 ak lenk capk (bs8 kx) D) (hnk : ak = none → lenk = 0) (hbk : lenk ≤ 17592186044416)
  (hp : SlP w ab lenb capb ps (fun b => b < w.heap.size)) (hbp : (flat ps).length ≤ 17592186044000) (hlb : lenb ≤ 1000000) (hG : Blk w 1 243 fz (ints .u64 (ws kSha))) :
  Calls Tryd.prog 115 #[.slice ak lenk capk, .slice ab lenb capb] w fun e w' => e = .returned (.agg (ints .u8 (bs8 (hmac kx (flat ps)))).toArray) ∧ Kp No w w' := by
 have hpx := fun c => padX_length (keyOf kx) c
 refine calls_at (n := 17) Tryd.func115 rfl rfl (by simp) ?_
 (refine At_seq (At_region ?_))
 refine AtR_go rfl (AtG_alloc fun b0 w0 hb0 e0 => ?_)
 have B0 : Blk w0 b0 181 (0, 0) z181 := e0.blk
 have K0 : Kp No w w0 := e0.kp (.inr (by omega))
 have l0 := B0.lt
 clear e0
 (refine AtR_nil (At_seq (At_region ?_)); refine s_mv ?_)
 refine s_call x_call (padded_calls hSum kx 54 ak lenk capk _ (hk.kpn K0) hnk hbk (hG.kp K0 id)) ?_
 rintro _ w1 ⟨a1, cap1, rfl, ho1, hf1, k1⟩
 refine ⟨_, rfl, ?_⟩
 have z1 := k1.size
 have lo1 := ho1.lt
 skip
 refine AtR_go rfl (AtG_buildSlice1 (ops := [_]) rfl rfl (by omega) rfl rfl rfl fun b2 w2 hb2 e2 => ?_)
 have B2 : Blk w2 b2 31 (0, 0) [pcV ⟨a1, 128, cap1, padX (keyOf kx) 54⟩] := e2.blk
 have k2 : Kp No w1 w2 := e2.kp (.inr (by omega))
 have K2 := (K0.trans k1).trans k2
 have hp2 := hp.kpn K2
 have ho2 := ho1.kp k2 (fun _ _ => id)
 have z2 := k2.size
 clear e2 ho1
 (refine s_mv ?_)
 refine AtR_go rfl (AtG_append (tx := 204) rfl rfl (Blk.own B2 (m := 1) rfl (by simp [maxLen])) (hp2.src (T := 204) rfl) rfl (by omega) (by simp only [maxLen]; omega) (by omega) fun a3 cap3 w3 ho3 k3 hfr3 => ?_)
 have K3 : Kp No w w3 := K2.trans' k3 (fun j hj => by simp [blkOf] at hj; right; have := K0.size; omega)
 have hsl3 : SlP w3 a3 (1 + lenb) cap3 (⟨a1, 128, cap1, padX (keyOf kx) 54⟩ :: ps) fun _ => True := by
  refine own_slp (ps := ⟨a1, 128, cap1, padX (keyOf kx) 54⟩ :: ps) ho3 (fun p hpm => ?_)
  rcases List.mem_cons.1 hpm with rfl | hpm
  ·exact (ho2.kp k3 (fun j hj c => by simp [blkOf] at c; have := lo1 j hj; omega)).sl.e fun _ _ => trivial
  ·exact SlE.all ((hp2.inner p hpm).kp k3 (fun b hb c => by simp [blkOf] at c; have := K0.size; omega))
 have B03 : Blk w3 b0 181 (0, 0) z181 := ((B0.kp k1 id).kp k2 id).kp k3 (fun c => by simp [blkOf] at c; omega)
 clear ho2 hp2 ho3 k3 hfr3 B2 B0
 skip
 refine s_call x_call (hSum _ _ _ _ _ _ _ hsl3 (by simp only [flat, List.flatMap_cons, List.length_append, hpx]; simp only [flat] at hbp; omega) (hG.kp K3 id)) ?_
 rintro _ w4 ⟨rfl, k4⟩
 refine ⟨_, rfl, ?_⟩
 have hfl : flat (⟨a1, 128, cap1, padX (keyOf kx) 54⟩ :: ps) = padX (keyOf kx) 54 ++ flat ps := by simp [flat]
 rw [hfl]
 obtain ⟨d, hd⟩ : ∃ d, d = sha (padX (keyOf kx) 54 ++ flat ps) := ⟨_, rfl⟩
 have hhm : hmac kx (flat ps) = sha (padX (keyOf kx) 92 ++ d) := by rw [hd]; rfl
 have hdl : d.length = 64 := by rw [hd]; exact sha_length _
 rw [← hd, hhm]
 have z4 := k4.size
 have zK3 := K3.size
 have l03 := B03.lt
 refine AtR_go rfl (AtG_alloc fun b5 w5 hb5 e5 => ?_)
 refine AtR_go rfl (G_skip (r_store_all (s := 64) rfl rfl e5.blk (by simp [hdl]) rfl (ints_one _ _)) fun w6 e6 => ?_)
 have B6 : Blk w6 b5 181 (0, 0) (ints .u8 (bs8 d)) := e6.blk
 have k6 : Kp No w4 w6 := (e5.kp (S := No) (.inr (by omega))).trans' (e6.kp (S := fun j => j = b5) (.inl rfl)) (by rintro j rfl; right; omega)
 have K6 := (K3.trans k4).trans k6
 have B06 := (B03.kp k4 id).kp k6 id
 have hne : b0 ≠ b5 := by omega
 clear e5 e6 B03
 have kd := Kp.drew (S := No) (w := w6)
 have K7 := K6.trans kd
 (refine AtR_nil (At_seq ?_))
 refine At_draw (fun _ => True) rfl ?_
 have hS : True := trivial
 (apply AtH_take 0 rfl (by decide +kernel) (by exact rfl); (focus (intro wx hx; skip; exact x_move (by conv => lhs; whnf))); (focus (exact hS)))
 refine AtH_take 2 rfl (by decide +kernel) rfl (fun wx hx => x_slice_arr (m := 64) rfl) hS ?_
 refine AtH_call 1 rfl (by decide +kernel) (by exact rfl) x_call  (padded_calls hSum kx 92 ak lenk capk _ (hk.kpn K7) hnk hbk (hG.kp K7 id)) ?_
 rintro _ w8 ⟨a8, cap8, rfl, ho8, hf8, k8⟩
 refine ⟨_, rfl, hS, ?_⟩
 refine H_val 3 rfl (by decide +kernel) rfl (r_buildSlice1 (os := [_, _]) rfl rfl (by omega) rfl rfl rfl) ?_
 rintro _ w9 ⟨b9, rfl, hb9, e9⟩
 refine ⟨hS, ?_⟩
 have k9 : Kp No w8 w9 := e9.kp (.inr (by omega))
 have B9 : Blk w9 b9 31 (0, 0) (List.map pcV [⟨a8, 128, cap8, padX (keyOf kx) 92⟩, ⟨some ⟨b5, 0, none⟩, 64, 64, d⟩]) := e9.blk
 have B69 := ((B6.kp kd id).kp k8 id).kp k9 id
 have K9 := (K7.trans k8).trans k9
 have hsl9 : SlP w9 (some ⟨b9, 0, none⟩) 2 2 [⟨a8, 128, cap8, padX (keyOf kx) 92⟩, ⟨some ⟨b5, 0, none⟩, 64, 64, d⟩] fun _ => True := by
  refine slp_blk B9 rfl (by simp [maxLen]) (fun p hpm => ?_)
  rcases List.mem_cons.1 hpm with rfl | hpm
  ·exact (ho8.kp k9 (fun _ _ => id)).sl.e fun _ _ => trivial
  ·rw [List.mem_singleton] at hpm
   subst hpm
   exact (B69.sl (m := 64) (by simp [hdl]) (by omega)).e fun _ _ => trivial
 refine AtH_call 4 rfl (by decide +kernel) (by exact rfl) x_call  (hSum _ _ _ _ _ _ _ hsl9 (by simp [flat, hpx, hdl]) (hG.kp K9 id)) ?_
 rintro _ w10 ⟨rfl, k10⟩
 refine ⟨_, rfl, hS, ?_⟩
 have B010 := (((B06.kp kd id).kp k8 id).kp k9 id).kp k10 id
 have hfl2 : flat [⟨a8, 128, cap8, padX (keyOf kx) 92⟩, ⟨some ⟨b5, 0, none⟩, 64, 64, d⟩] = padX (keyOf kx) 92 ++ d := by simp [flat]
 rw [hfl2]
 have hml := sha_length (padX (keyOf kx) 92 ++ d)
 refine H_skip 5 rfl (by decide +kernel) rfl (r_store_all (s := 64) rfl rfl B010 (by simp [hml]) rfl (ints_one _ _)) fun w11 e11 => ?_
 refine ⟨hS, AtH_done (by decide +kernel) ?_⟩
 have hzw := K0.size
 skip
 refine At_ret_cell Tryd.func115 rfl rfl e11.blk (by simp [hml]) ⟨rfl, ?_⟩
 exact (K9.trans k10).trans' (e11.kp (S := fun j => j = b0) (.inl rfl)) (by rintro j rfl; right; omega)
end Go.Proofs.YtfngacepjcdlnaaDoor
namespace Go.Kx
open Go
section
variable {P : Program} {n : Nat} {env : Env} {w : World} {dst : Option Tmp} {ty : TypeId} {pos : String} {aft : Array Edge} {g : Option (Nat × Bool)}
theorem r_conv_same {T E : TypeId} {x : Operand} {b len cap : Nat} {cs : List Value} [hT : TU P T (.slice E)] [hE : TU P E (.int .u8)] (hx : ev n env x = .slice (some ⟨b, 0, none⟩) len cap) (hB : Blk w b E (0, 0) cs) :
  ∃ v w', Run P n env ⟨dst, .convert T T x, ty, pos, aft, g⟩ w (.ok (.value v) w') ∧ v = .slice (some ⟨b, 0, none⟩) len cap ∧ (∃ fz, Blk w' b E fz cs) ∧ Kp (fun j => j = b) w w' := by
 have hlt := hB.lt
 have hB' : w.heap[b]? = some (.cells cs.toArray E (0, 0)) := hB
 have hsh : w.shape? b = some (E, cs.length) := by unfold World.shape?; rw [hB']; simp
 refine ⟨_, w.freeze ⟨b, cs.length, none⟩ 1, ?_, rfl, ⟨(cs.length, cs.length + 1), ?_⟩, ?_⟩
 ·unfold Run
  simp [execOp, hx, convert, run_underlying hT.h, run_underlying hE.h, markStringish, hsh]
 ·unfold Blk World.freeze
  rw [if_neg (by omega)]
  simp [Array.getElem?_modify, hB']
 ·unfold World.freeze
  rw [if_neg (by omega)]
  refine ⟨rfl, rfl, rfl, by simp, fun j hj _ => ?_⟩
  simp [Array.getElem?_modify, Ne.symm hj]
end
end Go.Kx
namespace Go.Proofs.YtfngacepjcdlnaaDoor
open Go Go.Kx
set_option maxRecDepth 100000 in
theorem sealP_calls (hSum : SumOk) (bo : Nat) {fo : Nat × Nat} {cs : List Value} (kx : List UInt8) (ps : List Pc) (ak : Option Addr) (lenk capk : Nat) (ab : Option Addr) (lenb capb : Nat) (w : World) {fz : Nat × Nat} {D : Nat → Prop} (hO : Blk w bo 129 fo (.pointer none :: cs))
  (hk : SlE w .u8 ak lenk capk (bs8 kx) D) (hnk : ak = none → lenk = 0) (hbk : lenk ≤ 17592186044416)
  (hp : SlP w ab lenb capb ps (fun b => b < w.heap.size)) (hbp : (flat ps).length ≤ 17592186044000) (hlb : lenb ≤ 1000000) (hG : Blk w 1 243 fz (ints .u64 (ws kSha))) :
  Calls Tryd.prog 98 #[.pointer (some ⟨bo, 0, none⟩), .slice ak lenk capk, .slice ab lenb capb] w fun e w' => e = .returned (.agg (ints .u8 (bs8 (hmac kx (flat ps)))).toArray) ∧ Kp No w w' := by
 refine calls_at (n := 21) Tryd.func98 rfl rfl (by simp) ?_
 have lo := hO.lt
 (refine At_seq (At_region ?_))
 refine AtR_go rfl (AtG_alloc fun b0 w0 hb0 e0 => ?_)
 have B0 : Blk w0 b0 181 (0, 0) z181 := e0.blk
 have K0 : Kp No w w0 := e0.kp (.inr (by omega))
 have O0 := hO.kp K0 id
 clear e0
 (refine AtR_nil (At_seq (At_seq (At_region ?_))); refine s_mv ?_; refine s_nc ?_; refine s_fa ?_; refine s_ld ?_; refine s_eqln ?_; refine AtR_nil ?_; refine At_cond_t rfl ?_; refine At_seq (At_region ?_); refine s_mv ?_; refine s_mv ?_)
 refine s_call x_call (hmacP_calls hSum kx ps ak lenk capk ab lenb capb _ (hk.kpn K0) hnk hbk ?_ hbp hlb (hG.kp K0 id)) ?_
 ·have h := hp.kpn K0
  refine ⟨h.len_eq, h.le, h.max, h.mem.imp id ?_, fun p hpm => (h.inner p hpm).mono fun b hb _ => hb⟩
  rintro ⟨b, off, rfl, h1, _, h2⟩
  exact ⟨b, off, rfl, h1, h1, h2⟩
 rintro _ w1 ⟨rfl, k1⟩
 refine ⟨_, rfl, ?_⟩
 have hml := hmac_length kx (flat ps)
 refine AtR_go rfl (G_skip (r_store_all (s := 64) rfl rfl (B0.kp k1 id) (by simp [hml]) rfl (ints_one _ _)) fun w2 e2 => ?_)
 (refine AtR_nil ?_)
 refine At_ret_cell Tryd.func98 rfl rfl e2.blk (by simp [hml]) ⟨rfl, ?_⟩
 exact (K0.trans k1).trans' (e2.kp (S := fun j => j = b0) (.inl rfl)) (by rintro j rfl; right; omega)
end Go.Proofs.YtfngacepjcdlnaaDoor
namespace Go.Proofs.YtfngacepjcdlnaaDoor
open Go Go.Kx
theorem SlP.here {w : World} {a : Option Addr} {len cap : Nat} {ps : List Pc} {D : Nat → Prop} (h : SlP w a len cap ps D) : SlP w a len cap ps fun b => b < w.heap.size := by
 refine ⟨h.len_eq, h.le, h.max, h.mem.imp id ?_, fun p hpm => (h.inner p hpm).mono fun b hb _ => hb⟩
 rintro ⟨b, off, rfl, h1, _, h2⟩
 exact ⟨b, off, rfl, h1, h1, h2⟩
theorem byte_succ (i : Nat) : IntKind.u8.wrap (ub (UInt8.ofNat (i + 1)) + 1) = ub (UInt8.ofNat (i + 1 + 1)) := by
 rw [wrap_u8]; unfold ub; simp
theorem own_none {w : World} {E : TypeId} {m cap : Nat} {cs : List Value} (h : Own w E 1 none m cap cs) : m = 0 := by
 obtain ⟨_, h2, _, h4⟩ := h
 rcases h4 with ⟨_, h⟩ | ⟨b, sp, h, _⟩
 ·omega
 ·cases h
set_option maxRecDepth 100000 in
set_option maxHeartbeats 4000000 in
theorem deriveP_calls (hSum : SumOk) (bo : Nat) {fo : Nat × Nat} {cs : List Value} (m : List UInt8) (c : UInt8) (info : List UInt8) (n : Nat) (am : Option Addr) (lenm capm : Nat) (ai : Option Addr) (leni capi : Nat) (w : World) {fz : Nat × Nat} {D D' : Nat → Prop}
  (hO : Blk w bo 129 fo (.pointer none :: cs)) (hm : SlE w .u8 am lenm capm (bs8 m) D) (hi : SlE w .u8 ai leni capi (bs8 info) D') (hbm : lenm ≤ 17592186043000) (hbi : leni ≤ 17592186043000) (hn : n ≤ 16320) (hG : Blk w 1 243 fz (ints .u64 (ws kSha))) :
  Calls Tryd.prog 66 #[.pointer (some ⟨bo, 0, none⟩), .slice am lenm capm, .int .u8 (ub c), .slice ai leni capi, .int .i64 (n : Int)] w
   fun e w' => ∃ a' cap', e = .returned (.tuple #[.slice a' n cap', .bool true]) ∧ Own w' 5 1 a' n cap' (ints .u8 (bs8 (derive m c info n))) ∧ (∀ j, blkOf a' j → w.heap.size ≤ j) ∧ Kp No w w' := by
 have hlm := hm.len_eq
 have hli := hi.len_eq
 simp only [bs8_length] at hlm hli
 refine calls_at (n := 55) Tryd.func66 rfl rfl (by simp) ?_
 (refine At_seq (At_region ?_); refine s_as ?_; refine s_as ?_; refine AtR_nil (At_seq (At_seq (At_region ?_))); refine s_mv ?_; refine s_lss ?_; refine s_mv ?_; refine s_yes rfl rfl rfl rfl ?_; refine g_mv ?_; refine s_yes rfl rfl rfl rfl ?_; refine g_gtr ?_; refine s_pf ?_; refine AtR_nil ?_; refine At_cond_f rfl ?_; refine At_skip (At_seq (At_region ?_)); refine s_mv ?_)
 refine AtR_go rfl (AtG_make1 (z := .int .u8 0) rfl rfl (by omega) (by omega) rfl (by omega) (by omega) fun b1 w1 hb1 e1 => ?_)
 have B1 : Blk w1 b1 5 (0, 0) (ints .u8 (bs8 (List.replicate 64 0))) := e1.blk
 have K1 : Kp No w w1 := e1.kp (.inr (by omega))
 clear e1
 (refine s_mv ?_)
 refine AtR_go rfl (AtG_buildSlice1 (ops := [_]) rfl rfl (by omega) rfl rfl rfl fun b2 w2 hb2 e2 => ?_)
 have B2 : Blk w2 b2 31 (0, 0) [pcV ⟨am, lenm, capm, m⟩] := e2.blk
 have k2 : Kp No w1 w2 := e2.kp (.inr (by omega))
 have K2 := K1.trans k2
 clear e2
 refine s_call x_call (sealP_calls hSum bo (List.replicate 64 0) [⟨am, lenm, capm, m⟩] _ _ _ _ _ _ _ (D := fun _ => True) (hO.kp K2 id) (((B1.kp k2 id).sl (m := 64) rfl (by omega)).e fun _ _ => trivial) (fun h => by cases h) (by omega)
  (SlP.here (slp_one B2 (SlE.all (hm.kpn K2)))) (by simp [flat]; omega) (by omega) (hG.kp K2 id)) ?_
 rintro _ w3 ⟨rfl, k3⟩
 refine ⟨_, rfl, ?_⟩
 rw [show flat [⟨am, lenm, capm, m⟩] = m by simp [flat]]
 have hml := hmac_length (List.replicate 64 0) m
 obtain ⟨kk, hkk⟩ : ∃ kk, kk = hmac (List.replicate 64 0) m := ⟨_, rfl⟩
 have hder : derive m c info n = (drv kk c info ((n + 63) / 64)).1.take n := by rw [hkk]; rfl
 rw [← hkk] at hml ⊢
 rw [hder]
 have K3 := K2.trans k3
 refine AtR_go rfl (AtG_alloc fun b4 w4 hb4 e4 => ?_)
 refine AtR_go rfl (G_skip (r_store_all (s := 64) rfl rfl e4.blk (by simp [hml]) rfl (ints_one _ _)) fun w5 e5 => ?_)
 have B5 : Blk w5 b4 181 (0, 0) (ints .u8 (bs8 kk)) := e5.blk
 have K5 : Kp No w w5 := (K3.trans (e4.kp (.inr (by omega)))).trans' (e5.kp (S := fun j => j = b4) (.inl rfl)) (by rintro j rfl; right; have := K3.size; omega)
 clear e4 e5 B1 B2 K1 K2 k2 k3 K3
 (refine AtR_nil (At_seq (At_region ?_)); refine s_as ?_; refine s_as ?_; refine AtR_nil (At_seq (At_seq (At_region ?_))); refine s_as ?_; refine AtR_nil (At_block ?_))
 refine At_while (fun s : Nat × (Option Addr × Nat) × (Option Addr × Nat × Nat) => [(0, .pointer (some ⟨bo, 0, none⟩)), (2, .int .u8 (ub c)), (3, .slice ai leni capi), (4, .int .i64 (n : Int)), (12, .pointer (some ⟨b4, 0, none⟩)), (13, .slice s.2.1.1 (64 * s.1) s.2.1.2), (14, .slice s.2.2.1 s.2.2.2.1 s.2.2.2.2), (15, .int .u8 (ub (UInt8.ofNat (s.1 + 1))))])
  (fun s w' => s.1 ≤ (n + 63) / 64 ∧ Own w' 5 1 s.2.1.1 (64 * s.1) s.2.1.2 (ints .u8 (bs8 (drv kk c info s.1).1)) ∧ (∀ j, blkOf s.2.1.1 j → w.heap.size ≤ j) ∧ SlE w' .u8 s.2.2.1 s.2.2.2.1 s.2.2.2.2 (bs8 (drv kk c info s.1).2) (fun _ => True) ∧ Kp No w5 w') (fun s => (n + 63) / 64 - s.1) (0, (none, 0), (none, 0, 0)) ⟨rfl, rfl, rfl, rfl, rfl, rfl, rfl, rfl, trivial⟩
  ⟨by omega, Own.nil _ _ _, fun j hj => by simp [blkOf] at hj, ⟨rfl, Nat.le_refl _, Nat.zero_le _, .inl rfl⟩, Kp.refl _ _⟩ ?_
 rintro ⟨i, ⟨ao, co⟩, ⟨al, ll, cl⟩⟩ w6 junk ⟨hil, ho, hf, hla, K6⟩ again
 simp only at hil ho hf hla again ⊢
 obtain ⟨hd1, hd2⟩ := drv_length kk c info i
 have hll := hla.len_eq
 simp only [bs8_length] at hll
 by_cases hlt : i < (n + 63) / 64
 ·(refine At_seq (At_seq (At_region ?_)); refine s_mv ?_; refine s_ln ?_; refine s_mv ?_; refine s_lss ?_; refine AtR_nil ?_; refine At_cond_t rfl ?_; refine At_skip (At_seq (At_block (At_seq (At_region ?_)))); refine s_mv ?_)
  refine s_val (x_slice_arr (m := 64) rfl) ?_
  (refine s_mv ?_)
  refine AtR_go rfl (AtG_buildSlice1 (ops := [_, _, _, _, _, _, _, _]) rfl rfl (by omega) rfl rfl rfl fun b7 w7 hb7 e7 => ?_)
  have B7 : Blk w7 b7 5 (0, 0) (ints .u8 (bs8 label)) := e7.blk
  have K7 : Kp No w6 w7 := e7.kp (.inr (by omega))
  clear e7
  refine AtR_go rfl (G_val (r_conv_same rfl B7) ?_)
  rintro _ w8 ⟨rfl, ⟨fz8, B8⟩, k8⟩
  have K8 : Kp No w6 w8 := K7.trans' k8 (by rintro j rfl; right; omega)
  have hz8 := K8.size
  (refine s_mv ?_)
  refine AtR_go rfl (AtG_buildSlice1 (ops := [_]) rfl rfl (by omega) rfl rfl rfl fun b9 w9 hb9 e9 => ?_)
  have B9 : Blk w9 b9 5 (0, 0) (ints .u8 (bs8 [c])) := e9.blk
  have k9 : Kp No w8 w9 := e9.kp (.inr (by omega))
  clear e9
  (refine s_mv ?_; refine s_mv ?_)
  refine AtR_go rfl (AtG_buildSlice1 (ops := [_]) rfl rfl (by omega) rfl rfl rfl fun b10 w10 hb10 e10 => ?_)
  have B10 : Blk w10 b10 5 (0, 0) (ints .u8 (bs8 [UInt8.ofNat (i + 1)])) := e10.blk
  have k10 : Kp No w9 w10 := e10.kp (.inr (by omega))
  clear e10
  refine AtR_go rfl (AtG_buildSlice1 (ops := [_, _, _, _, _]) rfl rfl (by omega) rfl rfl rfl fun b11 w11 hb11 e11 => ?_)
  have B11 : Blk w11 b11 31 (0, 0) (List.map pcV [⟨al, ll, cl, (drv kk c info i).2⟩, ⟨some ⟨b7, 0, none⟩, 8, 8, label⟩, ⟨some ⟨b9, 0, none⟩, 1, 1, [c]⟩, ⟨ai, leni, capi, info⟩, ⟨some ⟨b10, 0, none⟩, 1, 1, [UInt8.ofNat (i + 1)]⟩]) := e11.blk
  have k11 : Kp No w10 w11 := e11.kp (.inr (by omega))
  clear e11
  have K11 := ((K8.trans k9).trans k10).trans k11
  have KA := (K5.trans K6).trans K11
  have hsl : SlP w11 (some ⟨b11, 0, none⟩) 5 5 [⟨al, ll, cl, (drv kk c info i).2⟩, ⟨some ⟨b7, 0, none⟩, 8, 8, label⟩, ⟨some ⟨b9, 0, none⟩, 1, 1, [c]⟩, ⟨ai, leni, capi, info⟩, ⟨some ⟨b10, 0, none⟩, 1, 1, [UInt8.ofNat (i + 1)]⟩] fun _ => True := by
   refine slp_blk B11 rfl (by simp [maxLen]) (fun p hpm => ?_)
   simp only [List.mem_cons, List.not_mem_nil, or_false] at hpm
   rcases hpm with rfl | rfl | rfl | rfl | rfl
   ·exact hla.kpn K11
   ·exact (((((B8.kp k9 id).kp k10 id).kp k11 id)).sl (m := 8) rfl (by omega)).e fun _ _ => trivial
   ·exact (((B9.kp k10 id).kp k11 id).sl (m := 1) rfl (by omega)).e fun _ _ => trivial
   ·exact SlE.all (hi.kpn KA)
   ·exact ((B10.kp k11 id).sl (m := 1) rfl (by omega)).e fun _ _ => trivial
  have hfl : flat [⟨al, ll, cl, (drv kk c info i).2⟩, ⟨some ⟨b7, 0, none⟩, 8, 8, label⟩, ⟨some ⟨b9, 0, none⟩, 1, 1, [c]⟩, ⟨ai, leni, capi, info⟩, ⟨some ⟨b10, 0, none⟩, 1, 1, [UInt8.ofNat (i + 1)]⟩] = (drv kk c info i).2 ++ label ++ [c] ++ info ++ [UInt8.ofNat (i + 1)] := by simp [flat]
  refine s_call x_call (sealP_calls hSum bo kk _ _ _ _ _ _ _ _ (D := fun _ => True) (hO.kp KA id) ((((B5.kp K6 id).kp K11 id).sl (m := 64) (by simp [hml]) (by omega)).e fun _ _ => trivial) (fun h => by cases h) (by omega) (SlP.here hsl) (by rw [hfl]; simp [label]; omega) (by omega) (hG.kp KA id)) ?_
  rintro _ w12 ⟨rfl, k12⟩
  refine ⟨_, rfl, ?_⟩
  rw [hfl]
  have hml2 := hmac_length kk ((drv kk c info i).2 ++ label ++ [c] ++ info ++ [UInt8.ofNat (i + 1)])
  refine AtR_go rfl (AtG_alloc fun b13 w13 hb13 e13 => ?_)
  refine AtR_go rfl (G_skip (r_store_all (s := 64) rfl rfl e13.blk (by rw [ints_length, bs8_length]; exact hml2) rfl (ints_one _ _)) fun w14 e14 => ?_)
  have B14 : Blk w14 b13 181 (0, 0) (ints .u8 (bs8 (drv kk c info (i + 1)).2)) := e14.blk
  have k14 : Kp No w12 w14 := (e13.kp (S := No) (.inr (by omega))).trans' (e14.kp (S := fun j => j = b13) (.inl rfl)) (by rintro j rfl; right; omega)
  clear e13 e14
  have K14 := (K11.trans k12).trans k14
  (refine AtR_nil (At_seq ?_); refine At_region ?_)
  refine s_val (x_slice_arr (m := 64) rfl) ?_
  (refine s_as ?_; refine AtR_nil (At_region ?_); refine s_mv ?_; refine s_mv ?_)
  refine AtR_go rfl (AtG_buildSlice1 (ops := [_, _]) rfl rfl (by omega) rfl rfl rfl fun b15 w15 hb15 e15 => ?_)
  have B15 : Blk w15 b15 31 (0, 0) (List.map pcV [⟨ao, 64 * i, co, (drv kk c info i).1⟩, ⟨some ⟨b13, 0, none⟩, 64, 64, (drv kk c info (i + 1)).2⟩]) := e15.blk
  have k15 : Kp No w14 w15 := e15.kp (.inr (by omega))
  clear e15
  have K15 := K14.trans k15
  have hsl2 : SlP w15 (some ⟨b15, 0, none⟩) 2 2 [⟨ao, 64 * i, co, (drv kk c info i).1⟩, ⟨some ⟨b13, 0, none⟩, 64, 64, (drv kk c info (i + 1)).2⟩] fun _ => True := by
   refine slp_blk B15 rfl (by simp [maxLen]) (fun p hpm => ?_)
   simp only [List.mem_cons, List.not_mem_nil, or_false] at hpm
   rcases hpm with rfl | rfl
   ·exact (ho.kp K15 (fun _ _ => id)).sl.e fun _ _ => trivial
   ·exact ((B14.kp k15 id).sl (m := 64) (by rw [bs8_length]; exact hml2) (by omega)).e fun _ _ => trivial
  have hfl2 : flat [⟨ao, 64 * i, co, (drv kk c info i).1⟩, ⟨some ⟨b13, 0, none⟩, 64, 64, (drv kk c info (i + 1)).2⟩] = (drv kk c info (i + 1)).1 := by simp [flat, drv]
  have hd3 := (drv_length kk c info (i + 1)).1
  refine s_call x_call (concat_calls _ _ _ _ _ hsl2 (by rw [hfl2, hd3]; omega)) ?_
  rintro _ w16 ⟨a16, c16, rfl, ho16, hf16, k16⟩
  refine ⟨_, rfl, ?_⟩
  rw [hfl2, hd3] at ho16 ⊢
  (refine s_as ?_; refine AtR_nil (At_inBlock (At_region ?_)); refine s_mv ?_)
  refine s_val (x_add rfl rfl) ?_
  rw [byte_succ]
  (refine s_as ?_; refine AtR_nil ?_)
  refine again (i + 1, (a16, c16), (some ⟨b13, 0, none⟩, 64, 64)) _ _ ⟨rfl, rfl, rfl, rfl, rfl, rfl, rfl, rfl, trivial⟩ ⟨hlt, ho16, fun j hj => ?_, ?_, (K6.trans K15).trans k16⟩ (by simp only; omega)
  ·exact Nat.le_trans (Nat.le_trans K5.size (Nat.le_trans K6.size K15.size)) (hf16 j hj)
  ·exact (((B14.kp k15 id).kp k16 id).sl (m := 64) (by rw [bs8_length]; exact hml2) (by omega)).e fun _ _ => trivial
 have hie : i = (n + 63) / 64 := by omega
 rw [← hie]
 clear again
 have hsp := ho.sl.spot
 have hco := ho.sl.le
 have hst := ho.sl.take n (by omega)
 rw [show (bs8 (drv kk c info i).1).take n = bs8 ((drv kk c info i).1.take n) by simp [bs8, List.map_take]] at hst
 (refine At_seq (At_seq (At_region ?_)); refine s_mv ?_; refine s_ln ?_; refine s_mv ?_; refine s_lss ?_; refine AtR_nil ?_; refine At_cond_f rfl ?_; refine At_exit rfl ?_; refine At_seq (At_region ?_); refine s_mv ?_; refine s_mv ?_; refine s_sl ?_)
 refine s_call x_call (clone_calls ((drv kk c info i).1.take n) ao n co _ (D := fun _ => True) (hst.e fun _ _ => trivial) (by omega) (fun h => by subst h; have := own_none ho; omega)) ?_
 rintro _ w7 ⟨a7, c7, rfl, ho7, hf7, k7⟩
 refine ⟨_, rfl, ?_⟩
 (refine s_as ?_; refine s_as ?_; refine AtR_nil ?_)
 refine At_ret2 Tryd.func66 rfl (by conv => lhs; whnf) (by conv => lhs; whnf) ?_
 exact ⟨a7, c7, rfl, ho7, fun j hj => Nat.le_trans (Nat.le_trans K5.size K6.size) (hf7 j hj), (K5.trans K6).trans k7⟩
end Go.Proofs.YtfngacepjcdlnaaDoor
namespace Go.Proofs.YtfngacepjcdlnaaDoor
open Go Go.Kx
theorem built145 : Tryd.prog.built 145 [] = some z145.toArray := by kernel_rfl
theorem built129 : Tryd.prog.built 129 [] = some z129.toArray := by kernel_rfl
theorem built125 (b : Nat) : Tryd.prog.built 125 [(0, .pointer (some ⟨b, 0, none⟩))] = some [.pointer (some ⟨b, 0, none⟩), .slice none 0 0].toArray := by kernel_rfl
set_option maxRecDepth 100000 in
theorem derive23_calls (m : List UInt8) (c : UInt8) (info : List UInt8) (n : Nat) (am : Option Addr) (lenm capm : Nat) (ai : Option Addr) (leni capi : Nat) (w : World) {D D' : Nat → Prop}
  (hm : SlE w .u8 am lenm capm (bs8 m) D) (hi : SlE w .u8 ai leni capi (bs8 info) D') (hbm : lenm ≤ 35184372088000) (hbi : leni ≤ 35184372087000) (hn : n ≤ 16320) :
  Calls Tryd.prog 22 #[.slice am lenm capm, .int .u8 (ub c), .slice ai leni capi, .int .i64 (n : Int)] w fun e w' => e = .returned (strV (derive m c info n)) ∧ Kp No w w' := by
 refine calls_at (n := 18) Tryd.func22 rfl rfl (by simp) ?_
 (refine At_seq (At_region ?_); refine s_as ?_; refine AtR_nil (At_seq ?_); refine At_region ?_)
 refine s_val (x_build (by first | rfl | exact rfl) built145) ?_
 refine AtR_go rfl (AtG_box rfl fun b w1 hb e1 => ?_)
 have B : Blk w1 b 145 (0, 0) (.bool false :: [.slice none 0 0, .slice none 0 0, .slice none 0 0, .bool false, .int .i64 0, .int .i64 0, .slice none 0 0]) := e1.blk
 have K1 : Kp No w w1 := e1.kp (.inr (by omega))
 clear e1
 (refine s_as ?_; refine AtR_nil (At_seq (At_region ?_)); refine s_mv ?_; refine s_mv ?_; refine s_mv ?_; refine s_mv ?_; refine s_mv ?_)
 refine s_call x_call (deriveR_calls b m c info n am lenm capm ai leni capi _ B (hm.kpn K1) (hi.kpn K1) hbm hbi hn) ?_
 rintro _ w2 ⟨rfl, k2⟩
 refine ⟨_, rfl, ?_⟩
 (refine s_as ?_; refine AtR_nil ?_)
 refine At_ret1 Tryd.func22 rfl (by conv => lhs; whnf) ?_
 exact ⟨rfl, K1.trans k2⟩
theorem real_calls (w : World) : Calls Tryd.prog 18 #[] w fun e w' => ∃ b, e = .returned (.pointer (some ⟨b, 0, none⟩)) ∧ Blk w' b 129 (0, 0) z129 ∧ w.heap.size ≤ b ∧ Kp No w w' := by
 refine calls_at (n := 3) Tryd.func18 rfl rfl (by simp) ?_
 (refine At_seq (At_region ?_); refine s_as ?_; refine AtR_nil (At_seq ?_); refine At_region ?_)
 refine s_val (x_build (by first | rfl | exact rfl) built129) ?_
 refine AtR_go rfl (AtG_box rfl fun b w1 hb e1 => ?_)
 (refine s_as ?_; refine AtR_nil ?_)
 refine At_ret1 Tryd.func18 rfl (by conv => lhs; whnf) ?_
 exact ⟨b, rfl, e1.blk, by omega, e1.kp (.inr (by omega))⟩
theorem ring_calls (bo : Nat) (w : World) : Calls Tryd.prog 17 #[.pointer (some ⟨bo, 0, none⟩)] w
  fun e w' => ∃ b, e = .returned (.tuple #[.pointer (some ⟨b, 0, none⟩), .int .i64 0]) ∧ Blk w' b 125 (0, 0) [.pointer (some ⟨bo, 0, none⟩), .slice none 0 0] ∧ w.heap.size ≤ b ∧ Kp No w w' := by
 refine calls_at (n := 9) Tryd.func17 rfl rfl (by simp) ?_
 (refine At_seq (At_region ?_); refine s_as ?_; refine s_as ?_; refine AtR_nil (At_seq (At_seq (At_region ?_))); refine s_mv ?_; refine s_eqlp ?_; refine AtR_nil ?_; refine At_cond_f rfl ?_; refine At_skip (At_seq (At_region ?_)); refine s_mv ?_)
 refine s_val (x_build (by first | rfl | exact rfl) (built125 bo)) ?_
 refine AtR_go rfl (AtG_box rfl fun b w1 hb e1 => ?_)
 (refine s_as ?_; refine s_as ?_; refine AtR_nil ?_)
 refine At_ret2 Tryd.func17 rfl (by conv => lhs; whnf) (by conv => lhs; whnf) ?_
 exact ⟨b, rfl, e1.blk, by omega, e1.kp (.inr (by omega))⟩
end Go.Proofs.YtfngacepjcdlnaaDoor
namespace Go.Proofs.YtfngacepjcdlnaaDoor
open Go Go.Kx
theorem chunk_calls (a : Option Addr) (len cap : Nat) (w : World) : Calls Tryd.prog 135 #[.slice a len cap, .int .i64 128] w
  fun e w' => ∃ b1 b2, e = .returned (.func (.func 145) #[] #[.pointer (some ⟨b1, 0, none⟩), .pointer (some ⟨b2, 0, none⟩)]) ∧ Blk w' b1 31 (0, 0) [.slice a len cap] ∧ Blk w' b2 3 (0, 0) [.int .i64 128] ∧ w.heap.size ≤ b1 ∧ w.heap.size ≤ b2 ∧ Kp No w w' := by
 refine calls_at (n := 9) Tryd.func135 rfl rfl (by simp) ?_
 (refine At_seq (At_region ?_))
 refine AtR_go rfl (AtG_box rfl fun b1 w1 hb1 e1 => ?_)
 have B1 : Blk w1 b1 31 (0, 0) [.slice a len cap] := e1.blk
 have z1 := e1.size
 refine AtR_go rfl (AtG_box rfl fun b2 w2 hb2 e2 => ?_)
 have B2 : Blk w2 b2 3 (0, 0) [.int .i64 128] := e2.blk
 have K1 : Kp No w w1 := e1.kp (.inr (by omega))
 have k2 : Kp No w1 w2 := e2.kp (.inr (by omega))
 have B12 := B1.kp k2 id
 (refine s_as ?_; refine AtR_nil (At_seq (At_seq (At_region ?_))); refine s_ld ?_; refine s_lss ?_; refine AtR_nil ?_; refine At_cond_f rfl ?_; refine At_skip (At_seq ?_); refine At_region ?_)
 refine s_val (x_makeFunc2 rfl rfl) ?_
 (refine s_as ?_; refine AtR_nil ?_)
 refine At_ret1 Tryd.func135 rfl (by conv => lhs; whnf) ?_
 exact ⟨b1, b2, rfl, B12, B2, by omega, by omega, K1.trans k2⟩
theorem loop_again {r : Loop} (h : r.state = .ready) (h2 : r.pending = none) : { r with state := .ready, pending := none } = r := by cases r; simp_all
set_option maxRecDepth 100000 in
set_option maxHeartbeats 2000000 in
theorem pieces_calls (T : List UInt8) (N : Nat) (l n0 p b1 b2 : Nat) (env0 : Env) (r : Loop) (J : Nat → World → Prop) (a : Option Addr) (cap : Nat) (w : World) (hT : T.length = 128 * N) (hN : 128 * N ≤ 9223372036854770000)
  (hl : w.heap[l]? = some (.loop r)) (hst : r.state = .ready) (hpe : r.pending = none) (hp : r.params = #[p]) (ht : r.tmps = (mkA n0 env0).tmps) (h0 : J 0 w)
  (hJ : ∀ k w', J k w' → Blk w' b1 31 (0, 0) [.slice a (128 * N) cap] ∧ Blk w' b2 3 (0, 0) [.int .i64 128] ∧ Sl w' .u8 a (128 * N) cap (bs8 T))
  (hput : ∀ k w' o o', J k w' → w'.heap[l]? = some (.loop o) → J k (w'.putObj l (.loop o'))) (hdr : ∀ k w', J k w' → J k w'.drew)
  (hround : ∀ k w' b off, k < N → w'.heap[l]? = some (.loop r) → J k w' → Sl w' .u8 (some ⟨b, off, none⟩) 128 128 (bs8 ((T.drop (128 * k)).take 128)) →
   At Tryd.prog ⟨r.fn, some l, []⟩ n0 (fun e w'' => (∃ v, e = .returned v) ∧ w''.heap[l]? = some (.loop { r with state := .busy }) ∧ J (k + 1) w'') [.code r.assign, .beginRound, .code r.body] (upd env0 p (.slice (some ⟨b, off, none⟩) 128 128)) w') :
  Calls Tryd.prog 145 #[.func (.yield l) #[] #[], .pointer (some ⟨b1, 0, none⟩), .pointer (some ⟨b2, 0, none⟩)] w fun e w2 => (∃ v, e = .returned v) ∧ w2.heap[l]? = some (.loop r) ∧ J N w2 := by
 refine calls_at (n := 31) Tryd.func145 rfl rfl (by simp) ?_
 (refine At_seq (At_region ?_); refine s_as ?_; refine AtR_nil (At_block ?_))
 refine At_while (fun k : Nat => [(0, .func (.yield l) #[] #[]), (1, .pointer (some ⟨b1, 0, none⟩)), (2, .pointer (some ⟨b2, 0, none⟩)), (4, .int .i64 ((128 * k : Nat) : Int))])
  (fun k w' => k ≤ N ∧ w'.heap[l]? = some (.loop r) ∧ J k w') (fun k => N - k) 0 ⟨rfl, rfl, rfl, rfl, trivial⟩ ⟨by omega, hl, h0⟩ ?_
 clear hl h0
 rintro k w1 junk ⟨hk, hl, hj⟩ again
 obtain ⟨B1, B2, hs⟩ := hJ k w1 hj
 by_cases hlt : k < N
 ·have hc := hs.le
  have hm := hs.max
  rcases hs.mem with ⟨rfl, h00⟩ | ⟨b, off, rfl, hlb, hseg⟩
  ·omega
  have hj2 := hdr k w1 hj
  obtain ⟨B1', B2', hs'⟩ := hJ k w1.drew hj2
  (refine At_seq (At_seq (At_region ?_)); refine s_mv ?_; refine s_ld ?_; refine s_ln ?_; refine s_lss ?_; refine AtR_nil ?_; refine At_cond_t rfl ?_; refine At_skip (At_seq (At_block ?_)); refine At_seq ?_)
  refine At_draw (fun w' => Blk w' b1 31 (0, 0) [.slice (some ⟨b, off, none⟩) (128 * N) cap] ∧ Blk w' b2 3 (0, 0) [.int .i64 128]) rfl ?_
  have hS : Blk w1.drew b1 31 (0, 0) [.slice (some ⟨b, off, none⟩) (128 * N) cap] ∧ Blk w1.drew b2 3 (0, 0) [.int .i64 128] := ⟨B1', B2'⟩
  refine AtH_take 0 rfl (by decide +kernel) rfl (fun wx hx => x_load1 rfl hx.2 rfl) hS ?_
  refine AtH_take 1 rfl (by decide +kernel) rfl (fun wx hx => x_load1 rfl hx.1 rfl) hS ?_
  refine AtH_take 2 rfl (by decide +kernel) rfl (fun wx hx => x_move rfl) hS ?_
  refine AtH_take 3 rfl (by decide +kernel) rfl (fun wx hx => x_slice_l rfl rfl (by omega) (by omega) (by omega)) hS ?_
  refine AtH_take 4 rfl (by decide +kernel) rfl (fun wx hx => x_len_slice rfl) hS ?_
  refine AtH_take 5 rfl (by decide +kernel) rfl (fun wx hx => x_min rfl rfl) hS ?_
  rw [show min (128 : Int) ((128 * N - ((128 * k : Nat) : Int).toNat : Nat) : Int) = 128 by omega]
  refine AtH_take 6 rfl (by decide +kernel) rfl (fun wx hx => x_assign rfl) hS ?_
  refine AtH_done (by decide +kernel) ?_
  (refine At_seq (At_region ?_); refine s_mv ?_; refine s_ld ?_; refine s_mv ?_; refine s_mv ?_; refine s_mv ?_; refine s_ad ?_; refine s_mv ?_; refine s_mv ?_; refine s_ad ?_)
  refine s_val (x_slice3 (l := 128 * k) (h := 128 * k + 128) (m := 128 * k + 128) rfl rfl rfl rfl (by omega) (by omega) (by omega) (by omega)) ?_
  rw [show 128 * k + 128 - 128 * k = 128 by omega, show off + 128 * k * 1 = off + 128 * k by omega]
  have hpc : Sl w1.drew .u8 (some ⟨b, off + 128 * k, none⟩) 128 128 (bs8 ((T.drop (128 * k)).take 128)) := by
   refine ⟨by simp; omega, Nat.le_refl _, by omega, .inr ⟨b, off + 128 * k, rfl, hlb, fun j hjj => ?_⟩⟩
   have hj128 : j < 128 := by simp at hjj; omega
   have h1 : w1.cell? ⟨b, off + (128 * k + j), none⟩ = (ints .u8 (bs8 T))[128 * k + j]? := hseg _ (by simp; omega)
   rw [show off + 128 * k + j = off + (128 * k + j) by omega]
   refine Eq.trans h1 ?_
   simp [ints, bs8, hj128]
  have hld : w1.drew.heap[l]? = some (.loop r) := hl
  refine AtR_go rfl (AtG_yield (Q := fun w' => w'.heap[l]? = some (.loop { r with state := .busy }) ∧ J (k + 1) w') (x_yield (v := .slice (some ⟨b, off + 128 * k, none⟩) 128 128) rfl rfl hld hp ht) (At.mono (R := fun e w'' => (∃ v, e = .returned v) ∧ w''.heap[l]? = some (.loop { r with state := .busy }) ∧ J (k + 1) w'') (fun e w' h => ⟨h.1, h.2.1, h.2⟩) (hround k _ b (off + 128 * k) hlt hld hj2 hpc)) fun w2 h2 => ?_)
  obtain ⟨hl2, hj2'⟩ := h2
  have hj3 := hput (k + 1) w2 _ r hj2' hl2
  have hl3 : (w2.putObj l (.loop r)).heap[l]? = some (.loop r) := World.putObj_heap_same (Array.getElem?_eq_some_iff.1 hl2).1
  rw [loop_again hst hpe]
  obtain ⟨B13, B23, hs3⟩ := hJ _ _ hj3
  (refine s_nt ?_; refine AtR_nil ?_; refine At_cond_f rfl ?_; refine At_skip (At_inBlock (At_region ?_)); refine s_mv ?_; refine s_ld ?_; refine s_ad ?_; refine s_as ?_; refine AtR_nil ?_)
  refine again (k + 1) _ _ ⟨rfl, rfl, rfl, ?_, trivial⟩ ⟨hlt, hl3, hj3⟩ (by omega)
  show Value.int .i64 (((128 * k : Nat) : Int) + 128) = .int .i64 ((128 * (k + 1) : Nat) : Int)
  congr 1
 have hke : k = N := by omega
 subst hke
 clear again
 (refine At_seq (At_seq (At_region ?_)); refine s_mv ?_; refine s_ld ?_; refine s_ln ?_; refine s_lss ?_; refine AtR_nil ?_; refine At_cond_f rfl ?_; refine At_exit rfl ?_)
 exact At_end0 Tryd.func145 rfl ⟨⟨_, rfl⟩, hl, hj⟩
end Go.Proofs.YtfngacepjcdlnaaDoor
namespace Go.Kx
open Go
section
variable {P : Program} {n : Nat} {R : Ending → World → Prop} {k : List Item} {env : Env} {w : World}
theorem At_retD_cell {fn : FuncId} {fd : Func} {D : Nat} {t : Tmp} {T : TypeId} {s : Nat} [TAgg P T s] {b : Nat} {E : TypeId} {fz : Nat × Nat} {cs : List Value} (hf : P.funcs[fn]? = some fd) (hr : fd.results = #[.cell t T])
  (hv : ev n env (.tmp t) = .pointer (some ⟨b, 0, none⟩)) (hB : Blk (w.putObj D (.deferred none)) b E fz cs) (hl : cs.length = s) (hD : w.heap[D]? = some (.deferred (some [])))
  (h : R (.returned (.agg cs.toArray)) (w.putObj D (.deferred none))) : At P ⟨fn, none, [{ target := .collected D, args := #[] }]⟩ n R (.code .ret :: k) env w := by
 refine At_retD hf hD ?_ h
 have h1 := congrFun (eval_mkA n env) (.tmp t)
 rw [hv] at h1
 have h2 : (mkA n env).tmps[t]?.getD undef = .pointer (some ⟨b, 0, none⟩) := by simpa [Act.eval] using h1
 simp [results, hr, h2, asAddr, run_load_agg_cells hB hl]
end
end Go.Kx
namespace Go.Proofs.YtfngacepjcdlnaaDoor
open Go Go.Kx
theorem built225 : Tryd.prog.built 225 [(0, .int .u64 7640891576956012808), (1, .int .u64 13503953896175478587), (2, .int .u64 4354685564936845355), (3, .int .u64 11912009170470909681), (4, .int .u64 5840696475078001361), (5, .int .u64 11170449401992604703), (6, .int .u64 2270897969802886507), (7, .int .u64 6620516959819538809)] = some (ints .u64 (ws h0Sha)).toArray := by kernel_rfl
set_option maxRecDepth 100000 in
theorem first_calls (w : World) : Calls Tryd.prog 134 #[] w fun e w' => e = .returned (.agg (ints .u64 (ws h0Sha)).toArray) ∧ Kp No w w' := by
 refine calls_at (n := 2) Tryd.func134 rfl rfl (by simp) ?_
 (refine At_seq (At_region ?_))
 refine AtR_go rfl (AtG_alloc fun b0 w0 hb0 e0 => ?_)
 have B0 : Blk w0 b0 225 (0, 0) z225 := e0.blk
 have K0 : Kp No w w0 := e0.kp (.inr (by omega))
 clear e0
 (refine AtR_nil (At_seq ?_); refine At_region ?_)
 refine s_val (x_build (by first | rfl | exact rfl) built225) ?_
 refine AtR_go rfl (G_skip (r_store_all (s := 8) rfl rfl B0 rfl rfl (ints_one _ _)) fun w2 e2 => ?_)
 (refine AtR_nil ?_)
 refine At_ret_cell Tryd.func134 rfl rfl e2.blk rfl ⟨rfl, ?_⟩
 exact K0.trans' (e2.kp (S := fun j => j = b0) (.inl rfl)) (by rintro j rfl; right; omega)
theorem hiB_get (X : BitVec 64) {i : Nat} (h : i < 8) : (hiB X 8)[i]? = some (lowb (X >>> (8 * (7 - i)))) := by
 simp [hiB, h]
theorem outB_get : ∀ (H : List (BitVec 64)) (i : Nat), i < 8 * H.length → (outB H)[i]? = some (lowb (H.getD (i / 8) 0 >>> (8 * (7 - i % 8))))
 | [], i, h => by simp at h
 | X :: H, i, h => by
  have e : outB (X :: H) = hiB X 8 ++ outB H := by simp [outB]
  rw [e]
  by_cases h8 : i < 8
  ·rw [List.getElem?_append_left (by rw [hiB_length]; exact h8), hiB_get X h8, Nat.div_eq_of_lt h8, Nat.mod_eq_of_lt h8]; rfl
  ·have hl : (X :: H).length = H.length + 1 := rfl
   rw [List.getElem?_append_right (by rw [hiB_length]; omega), hiB_length, outB_get H (i - 8) (by omega)]
   obtain ⟨j, rfl⟩ : ∃ j, i = j + 8 := ⟨i - 8, by omega⟩
   rw [show j + 8 - 8 = j by omega, show (j + 8) / 8 = j / 8 + 1 by omega, show (j + 8) % 8 = j % 8 by omega]
   rfl
def outTo (H : List (BitVec 64)) (i : Nat) : List UInt8 := (outB H).take i ++ List.replicate (64 - i) 0
theorem outTo_length {H : List (BitVec 64)} (hH : H.length = 8) {i : Nat} (h : i ≤ 64) : (outTo H i).length = 64 := by
 simp [outTo, outB_length, hH]; omega
theorem outTo_step {H : List (BitVec 64)} (hH : H.length = 8) {i : Nat} (h : i < 64) : (outTo H i).set i (lowb (H.getD (i / 8) 0 >>> (8 * (7 - i % 8)))) = outTo H (i + 1) := by
 have hg := outB_get H i (by omega)
 have hl := outB_length H
 apply List.ext_getElem?
 intro j
 have l1 := outTo_length hH (show i ≤ 64 by omega)
 rw [List.getElem?_set]
 by_cases e : i = j
 ·subst e
  rw [if_pos rfl, if_pos (by omega)]
  unfold outTo
  rw [List.getElem?_append_left (by simp; omega), List.getElem?_take, if_pos (by omega), hg]
 ·rw [if_neg e]
  unfold outTo
  have m1 : min i (outB H).length = i := by omega
  have m2 : min (i + 1) (outB H).length = i + 1 := by omega
  simp only [List.getElem?_append, List.length_take, List.getElem?_take, List.getElem?_replicate, m1, m2]
  by_cases h1 : j < i
  ·simp only [h1, show j < i + 1 by omega, if_true]
  ·simp only [h1, show ¬ j < i + 1 by omega, if_false]
   by_cases h2 : j < 64
   ·simp only [show j - i < 64 - i by omega, show j - (i + 1) < 64 - (i + 1) by omega, if_true]
   ·simp only [show ¬ j - i < 64 - i by omega, show ¬ j - (i + 1) < 64 - (i + 1) by omega, if_false]
set_option maxRecDepth 100000 in
set_option maxHeartbeats 4000000 in
theorem sumOk : SumOk := by
 intro ps a len cap w fz D hs hb hG
 refine calls_at (n := 37) Tryd.func124 rfl rfl (by simp) ?_
 (refine At_seq (At_region ?_))
 refine AtR_go rfl (AtG_alloc fun b2 w1 hb2 e1 => ?_)
 have B2 : Blk w1 b2 181 (0, 0) z181 := e1.blk
 have K1 : Kp No w w1 := e1.kp (.inr (by omega))
 have z1 := e1.size
 clear e1
 (refine AtR_nil (At_seq (At_region ?_)); refine s_mv ?_)
 refine s_call x_call (concat_calls ps a len cap _ (hs.kpn K1) (by omega)) ?_
 rintro _ w2 ⟨a2, cap2, rfl, ho2, hf2, k2⟩
 refine ⟨_, rfl, ?_⟩
 have K2 := K1.trans k2
 (refine s_as ?_; refine AtR_nil (At_seq ?_); refine At_region ?_)
 refine s_call x_call (first_calls _) ?_
 rintro _ w3 ⟨rfl, k3⟩
 refine ⟨_, rfl, ?_⟩
 have K3 := K2.trans k3
 refine AtR_go rfl (AtG_alloc fun b4 w4 hb4 e4 => ?_)
 have k4 : Kp No w3 w4 := e4.kp (.inr (by omega))
 have z4 := e4.size
 refine AtR_go rfl (G_skip (r_store_all (s := 8) rfl rfl e4.blk (by simp [h0Sha]) rfl (ints_one _ _)) fun w5 e5 => ?_)
 have B4 : Blk w5 b4 225 (0, 0) (ints .u64 (ws h0Sha)) := e5.blk
 have k5 : Kp No w3 w5 := k4.trans' (e5.kp (S := fun j => j = b4) (.inl rfl)) (by rintro j rfl; right; omega)
 have K5 := K3.trans k5
 have z3 := K3.size
 have hb4w : w.heap.size ≤ b4 := by omega
 clear e4 e5 k4
 have ho5 := (ho2.kp k3 fun _ _ => id).kp k5 fun _ _ => id
 (refine AtR_nil (At_seq (At_seq (At_region ?_))); refine s_mv ?_; refine s_mv ?_; refine s_ln ?_)
 refine s_call x_call (fill_calls (flat ps).length _ (by omega)) ?_
 rintro _ w6 ⟨a6, cap6, rfl, ho6, hf6, k6⟩
 refine ⟨_, rfl, ?_⟩
 have K6 := K5.trans k6
 have ho5' := ho5.kp k6 fun _ _ => id
 have hgap : gapN (flat ps).length ≤ 127 := by unfold gapN; omega
 have hfl := fillB_length (flat ps).length
 refine AtR_go rfl (AtG_append (tx := 31) rfl rfl ho5' (ho6.sl.src (T := 31) rfl) rfl (by omega) (by simp only [maxLen]; omega) (by omega) fun a7 cap7 w7 ho7 k7 hfr7 => ?_)
 have hpl := padded_length (flat ps)
 have hpe : (padded (flat ps)).length = (flat ps).length + (fillB (flat ps).length).length := by rw [padded, List.length_append]
 have hT7 : Own w7 5 1 a7 (128 * blocksN (flat ps)) cap7 (ints .u8 (bs8 (padded (flat ps)))) := own_eq ho7 (by simp [padded, bs8, ints]) (by omega)
 rw [show (flat ps).length + (fillB (flat ps).length).length = 128 * blocksN (flat ps) by omega]
 have hf7 : ∀ j, blkOf a7 j → w1.heap.size ≤ j := by
  rcases hfr7 with rfl | ⟨b, rfl, hb7⟩
  ·exact hf2
  ·intro j hj; simp [blkOf] at hj; subst hj
   have := k2.size; have := k3.size; have := k5.size; have := k6.size; omega
 have K7 : Kp No w w7 := K6.trans' k7 (fun j hj => .inr (Nat.le_trans z1 (hf2 j hj)))
 have B4' : Blk w7 b4 225 (0, 0) (ints .u64 (ws h0Sha)) := by
  refine (B4.kp k6 id).kp k7 fun hj => ?_
  have h1 := ho5'.lt b4 hj
  rcases ho2.lt b4 hj with h2
  have := k3.size
  omega
 have B2' : Blk w7 b2 181 (0, 0) z181 := by
  refine ((((B2.kp k2 id).kp k3 id).kp k5 id).kp k6 id).kp k7 fun hj => ?_
  have h1 := hf2 b2 hj
  have := B2.lt; omega
 clear ho7 ho6 ho5 ho5' ho2 hfr7 k7 B4 B2 K1 K2 K3 K5 K6 k2 k3 k5 k6
 refine s_call x_call (chunk_calls a7 _ cap7 _) ?_
 rintro _ w8 ⟨c1, c2, rfl, C1, C2, hc1, hc2, k8⟩
 refine ⟨_, rfl, ?_⟩
 have z7 := K7.size
 have K8 := K7.trans k8
 have hT8 := hT7.kp k8 fun _ _ => id
 have B4'' := B4'.kp k8 id
 have B2'' := B2'.kp k8 id
 have G8 := hG.kp K8 id
 clear hT7 B4' B2' hs K7 k8
 (refine AtR_nil (At_block ?_))
 have z8 := K8.size
 have eD : Eff w8 (w8.alloc (.deferred (some []))) w8.heap.size (.deferred (some [])) := eff_push w8 _
 have hDs : (w8.alloc (.deferred (some []))).heap.size = w8.heap.size + 1 := World.size_alloc ..
 have hT8' := hT8.kp (eD.kp (S := No) (.inr (Nat.le_refl _))) fun _ _ => id
 have C1' := C1.kp (eD.kp (S := No) (.inr (Nat.le_refl _))) id
 have C2' := C2.kp (eD.kp (S := No) (.inr (Nat.le_refl _))) id
 have B4d := B4''.kp (eD.kp (S := No) (.inr (Nat.le_refl _))) id
 have B2d := B2''.kp (eD.kp (S := No) (.inr (Nat.le_refl _))) id
 have Gd := G8.kp (eD.kp (S := No) (.inr (Nat.le_refl _))) id
 have Kd : Kp No w (w8.alloc (.deferred (some []))) := K8.trans (eD.kp (.inr (Nat.le_refl _)))
 have hne7 : ¬ blkOf a7 b4 := hT8.ne B4'' (by decide)
 have hb24 : b2 ≠ b4 := B2''.ne B4'' (by decide)
 have hc14 : c1 ≠ b4 := C1.ne B4'' (by decide)
 have hc24 : c2 ≠ b4 := C2.ne B4'' (by decide)
 have hg14 : 1 ≠ b4 := G8.ne B4'' (by decide)
 obtain ⟨T, hTd⟩ : ∃ T, T = padded (flat ps) := ⟨_, rfl⟩
 obtain ⟨N, hNd⟩ : ∃ N, N = blocksN (flat ps) := ⟨_, rfl⟩
 have hsha : sha (flat ps) = outB (dig T N) := by rw [hTd, hNd]; rfl
 rw [← hTd] at hpl hT8'
 rw [← hNd] at hpl hT8' C1'
 have hTl : T.length = (padded (flat ps)).length := by rw [hTd]
 rw [hsha, ← hNd]
 clear hT8 C1 C2 B4'' B2'' G8 hG
 let J : Nat → World → Prop := fun k w' => Blk w' c1 31 (0, 0) [.slice a7 (128 * N) cap7] ∧ Blk w' c2 3 (0, 0) [.int .i64 128] ∧ Own w' 5 1 a7 (128 * N) cap7 (ints .u8 (bs8 T)) ∧ Blk w' b4 225 (0, 0) (ints .u64 (ws (dig T k))) ∧ Blk w' b2 181 (0, 0) z181 ∧ Blk w' 1 243 fz (ints .u64 (ws kSha)) ∧ w'.heap[w8.heap.size]? = some (.deferred (some [])) ∧ Kp No w w'
 refine At_rangeFunc (gf := 145) (Q := fun w' => J N w' ∧ ∃ o, w'.heap[w8.heap.size + 1]? = some (.loop o)) rfl ?_ ?_
 ·refine (pieces_calls T N (w8.heap.size + 1) 37 17 c1 c2 _ (loopRec 124 37 _ #[17] _ _ w8.heap.size) J a7 cap7 _ hpl (by omega) ?_ rfl rfl rfl rfl ?_ ?_ ?_ ?_ ?_).mono fun e w2 h => ⟨h.1, h.2.1, h.2.2, _, h.2.1⟩
  ·rw [← hDs]; exact (eff_push _ _).here
  ·have eL := fun o => eff_push (w8.alloc (.deferred (some []))) o
   have kL := fun o => (eL o).kp (S := No) (.inr (Nat.le_refl _))
   exact ⟨C1'.kp (kL _) id, C2'.kp (kL _) id, hT8'.kp (kL _) fun _ _ => id, B4d.kp (kL _) id, B2d.kp (kL _) id, Gd.kp (kL _) id, ((eL _).other w8.heap.size (by omega) (by omega)).trans eD.here, Kd.trans (kL _)⟩
  ·rintro k w' ⟨h1, h2, h3, _⟩
   exact ⟨h1, h2, h3.sl⟩
  ·rintro k w' o o' ⟨h1, h2, h3, h4, h5, h6, h7, h8⟩ hl
   have e := eff_put (o := .loop o') (lt_of_some hl)
   refine ⟨h1.eff e (h1.not_loop hl), h2.eff e (h2.not_loop hl), h3.kp (e.kp (S := fun j => j = w8.heap.size + 1) (.inl rfl)) (fun j hj => ?_), h4.eff e (h4.not_loop hl), h5.eff e (h5.not_loop hl), h6.eff e (h6.not_loop hl), ?_, h8.trans' (e.kp (S := fun j => j = w8.heap.size + 1) (.inl rfl)) (by rintro j rfl; right; omega)⟩
   ·obtain ⟨_, hB⟩ := h3.blk_of hj; exact hB.not_loop hl
   ·rw [e.other _ (by omega) (lt_of_some h7)]; exact h7
  ·rintro k w' ⟨h1, h2, h3, h4, h5, h6, h7, h8⟩
   exact ⟨h1, h2, h3.kp (S := No) Kp.drew fun _ _ => id, h4, h5, h6, h7, h8.trans Kp.drew⟩
  ·rintro k w' b off hk hl ⟨h1, h2, h3, h4, h5, h6, h7, h8⟩ hp
   dsimp only [loopRec]
   (refine At_region ?_; refine s_as ?_; refine AtR_nil ?_)
   refine At_beginRoundE hl rfl fun wq e => ?_
   have hbl := hp.mem
   have hbl : b ≠ w8.heap.size + 1 := by
    rcases hp.mem with ⟨h, _⟩ | ⟨b', off', he, _, hseg⟩
    ·cases h
    ·cases he; exact hseg.not_loop (by simp; omega) hl
   have h1' := h1.eff e (h1.not_loop hl)
   have h2' := h2.eff e (h2.not_loop hl)
   have h3' := h3.kp (e.kp (S := fun j => j = w8.heap.size + 1) (.inl rfl)) (fun j hj => by obtain ⟨_, hB⟩ := h3.blk_of hj; exact hB.not_loop hl)
   have h4' := h4.eff e (h4.not_loop hl)
   have h5' := h5.eff e (h5.not_loop hl)
   have h6' := h6.eff e (h6.not_loop hl)
   have h7' := (e.other w8.heap.size (by omega) (lt_of_some h7)).trans h7
   have h8' : Kp No w wq := h8.trans' (e.kp (S := fun j => j = w8.heap.size + 1) (.inl rfl)) (by rintro j rfl; right; omega)
   have hp' := hp.kp (e.kp (S := fun j => j = w8.heap.size + 1) (.inl rfl)) (fun j hj => by simp [blkOf] at hj; omega)
   have hhere := e.here
   have z9 := h8.size
   (refine At_block (At_region ?_); refine s_mv ?_)
   refine s_call x_call (take512_calls (dig T k) ((T.drop (128 * k)).take 128) b4 _ 128 128 _ (dig_length _ _) h4' hp' (by omega) h6') ?_
   rintro _ w10 ⟨rfl, B10, k10⟩
   refine ⟨_, rfl, ?_⟩
   (refine AtR_nil (At_inBlock ?_))
   refine At_roundEnd ⟨⟨_, rfl⟩, ?_, ?_⟩
   ·rw [k10.keep _ (fun h => h4'.not_loop hhere h.symm) (lt_of_some hhere)]; exact hhere
   ·exact ⟨h1'.kp k10 hc14, h2'.kp k10 hc24, h3'.kp k10 fun j hj h => hne7 (h ▸ hj), B10, h5'.kp k10 hb24, h6'.kp k10 hg14, by rw [k10.keep _ (fun h => h4'.not_def h7' h.symm) (lt_of_some h7')]; exact h7', h8'.trans' k10 (by rintro j rfl; right; omega)⟩
 ·rintro w9 ⟨⟨h1, h2, h3, h4, h5, h6, h7, h8⟩, o, hl⟩
  have hH8 := dig_length T N
  obtain ⟨H, hH⟩ : ∃ H, H = dig T N := ⟨_, rfl⟩
  rw [← hH] at h4 hH8 ⊢
  have z9 := h8.size
  generalize hq : w9.putObj (w8.heap.size + 1) _ = wq
  have k : Kp (fun j => j = w8.heap.size + 1) w9 wq := by rw [← hq]; exact (eff_put (lt_of_some hl)).kp (.inl rfl)
  have V := h4.kp k (h4.not_loop hl)
  have C := h5.kp k (h5.not_loop hl)
  have hD : wq.heap[w8.heap.size]? = some (.deferred (some [])) := (k.keep _ (by omega) (lt_of_some h7)).trans h7
  have K : Kp No w wq := h8.trans' k (by rintro j rfl; right; omega)
  clear hq k h1 h2 h3 h4 h5 h6 h7 h8 hl
  have zq := K.size
  have lD := lt_of_some hD
  (refine At_inBlock (At_seq ?_); refine At_region ?_)
  refine AtR_go rfl (AtG_alloc fun b10 w10 hb10 e10 => ?_)
  have B10 : Blk w10 b10 181 (0, 0) (ints .u8 (bs8 (outTo H 0))) := e10.blk
  have K10 : Kp No wq w10 := e10.kp (.inr (by omega))
  have V10 := V.kp K10 fun h => h
  have z10 := e10.size
  clear e10
  (refine AtR_nil (At_seq (At_seq (At_region ?_))); refine s_mv ?_; refine AtR_nil (At_block ?_))
  refine At_while (fun i : Nat => [(2, .pointer (some ⟨b2, 0, none⟩)), (4, .pointer (some ⟨b4, 0, none⟩)), (6, .pointer (some ⟨b10, 0, none⟩)), (20, .int .i64 (i : Int))])
   (fun i w' => i ≤ 64 ∧ Blk w' b10 181 (0, 0) (ints .u8 (bs8 (outTo H i))) ∧ Blk w' b4 225 (0, 0) (ints .u64 (ws H)) ∧ Kp No wq w') (fun i => 64 - i) 0 ⟨rfl, rfl, rfl, rfl, trivial⟩ ⟨by omega, B10, V10, K10⟩ ?_
  clear B10 V10 K10
  rintro i w11 junk ⟨hi, B, V, K11⟩ again
  have hbv := B.ne V (by decide)
  by_cases hlt : i < 64
  ·(refine At_seq (At_region ?_); refine s_lss ?_; refine AtR_nil (At_seq ?_); refine At_cond_t rfl ?_; refine At_skip (At_seq (At_block (At_seq (At_region ?_)))); refine s_mv ?_; refine s_as ?_; refine AtR_nil (At_region ?_); refine s_mv ?_; refine s_mv ?_; refine s_qu ?_; refine s_iaa ?_; refine s_ldw ?_; refine s_mv ?_; refine s_rm ?_; refine s_sb ?_; refine s_ml ?_; refine s_hr ?_; refine s_wb ?_; refine s_iaa ?_)
   have e1 : (8 * (7 - (i : Int) % 8)).toNat = 8 * (7 - i % 8) := by omega
   have e2 : ((i : Int) / 8).toNat = i / 8 := by omega
   have hol := outTo_length hH8 hi
   refine AtR_go rfl (G_skip (r_store_bb rfl rfl B (by omega) rfl) fun w12 e12 => ?_)
   rw [e1, e2, outTo_step hH8 hlt] at e12
   have k12 : Kp (fun j => j = b10) w11 w12 := e12.kp (.inl rfl)
   (refine AtR_nil (At_inBlock (At_region ?_)); refine s_ad ?_; refine s_mv ?_; refine AtR_nil ?_)
   exact again (i + 1) _ _ ⟨rfl, rfl, rfl, rfl, trivial⟩ ⟨hlt, e12.blk, V.kp k12 hbv.symm, K11.trans' k12 (by rintro j rfl; right; omega)⟩ (by omega)
  have h64 : i = 64 := by omega
  subst h64
  clear again
  have hout : outTo H 64 = outB H := by unfold outTo; rw [List.take_of_length_le (by rw [outB_length]; omega)]; simp
  rw [hout] at B
  have hol := outB_length H
  have C11 := C.kp K11 fun h => h
  have hD11 : w11.heap[w8.heap.size]? = some (.deferred (some [])) := (K11.keep _ (fun h => h) lD).trans hD
  (refine At_seq (At_region ?_); refine s_lss ?_; refine AtR_nil (At_seq ?_); refine At_cond_f rfl ?_; refine At_exit rfl ?_; refine At_seq (At_region ?_))
  refine s_val (x_load_all rfl B (by simp; omega)) ?_
  refine AtR_go rfl (G_skip (r_store_all (s := 64) rfl rfl C11 (by simp; omega) rfl (ints_one _ _)) fun w12 e12 => ?_)
  have k12 : Kp (fun j => j = b2) w11 w12 := e12.kp (.inl rfl)
  have C12 := e12.blk
  have hD12 : w12.heap[w8.heap.size]? = some (.deferred (some [])) := (k12.keep _ (fun h => C11.not_def hD11 h.symm) (lt_of_some hD11)).trans hD11
  have kD := (eff_put (w := w12) (l := w8.heap.size) (o := .deferred none) (lt_of_some hD12)).kp (S := fun j => j = w8.heap.size) (.inl rfl)
  have z11 := K11.size
  have hb2w : w.heap.size ≤ b2 := by omega
  (refine AtR_nil ?_)
  refine At_retD_cell (s := 64) Tryd.func124 rfl rfl (C12.kp kD (C12.not_def hD12)) (by simp; omega) hD12 ⟨rfl, ?_⟩
  exact (((K.trans K11).trans' k12 (by rintro j rfl; right; omega)).trans' kD (by rintro j rfl; right; omega))
end Go.Proofs.YtfngacepjcdlnaaDoor
