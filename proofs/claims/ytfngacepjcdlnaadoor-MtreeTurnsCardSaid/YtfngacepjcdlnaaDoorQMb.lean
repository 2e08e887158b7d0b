/- Trees: the law's store of sectors in memory; calls through an interface. | Trees: the law's store: Drop, Save. | Trees: seals. | Trees: a sector loaded, and its pointers. -/
import Derived.Test.YtfngacepjcdlnaaDoorQMa
set_option linter.unusedVariables false
namespace Go.Kx
open Go
class TM (P : Program) (T : TypeId) (name : String) (f : outParam FuncId) : Prop where
 h : ((P.info? T).bind fun i => (i.methods.find? (·.name == name)).map fun m => (m.path.toList.length, m.func)) = some (0, some (f, true))
 u : ∃ e, P.underlying T = some (.pointer e)
theorem run_method {P : Program} {T : TypeId} {name : String} {f : FuncId} [hM : TM P T name f] (fuel : Nat) (v : Value) (w : World) : (method (fuel + 1) T v name).run P w = .ok (f, v) w := by
 obtain ⟨e, h5⟩ := hM.u
 have h := hM.h
 cases h1 : P.info? T with
 | none => rw [h1] at h; cases h
 | some i =>
  rw [h1] at h
  simp only [Option.bind_some] at h
  cases h2 : i.methods.find? (·.name == name) with
  | none => rw [h2] at h; cases h
  | some m =>
   rw [h2] at h
   simp only [Option.map_some, Option.some.injEq, Prod.mk.injEq] at h
   have h3 : m.path.toList = [] := List.eq_nil_of_length_eq_zero h.1
   unfold method
   simp [typeInfo, h1, h2, h3, h.2, follow, receiverAt, run_underlying h5, Place.get]
theorem x_invoke {P : Program} {n : Nat} {env : Env} {w : World} {dst : Option Tmp} {ty : TypeId} {pos : String} {aft : Array Edge} {g : Option (Nat × Bool)} {x : Operand} {xs : List Operand} {ts : Array TypeId} {T : TypeId} {v : Value} {name : String} {gf : FuncId} [TM P T name gf] [TFn P gf]
  (hx : ev n env x = .iface T v) :
  Run P n env ⟨dst, .call ⟨.invoke x name, xs.toArray, ts⟩, ty, pos, aft, g⟩ w (.ok (.enter gf (v :: xs.map (ev n env)).toArray) w) := by
 have h0 : 0 < Made.depth := by decide
 obtain ⟨k, hk⟩ : ∃ k, P.types.size + Made.depth = k + 1 := ⟨P.types.size + Made.depth - 1, by omega⟩
 unfold Run
 simp [execOp, resolve, invoke, hx, callMethod, hk, run_method, run_callFunc]
 exact List.take_of_length_le (by simp)
end Go.Kx
namespace Go.Mt
open Go Go.Kx Go.Proofs.YtfngacepjcdlnaaDoor
structure St where
 b : List (List UInt8)
 is : List Bool
 room : Nat
def St.at (st : St) (n : Nat) : Option (List UInt8) := if 1 ≤ n ∧ n ≤ st.b.length ∧ st.is.getD (n - 1) false = true then some (st.b.getD (n - 1) []) else none
def St.count (st : St) : Nat := st.is.count true
def St.save (st : St) (l : List UInt8) : St := ⟨st.b ++ [l], st.is ++ [true], st.room⟩
def St.drop (st : St) (n : Nat) : St := if (st.at n).isSome then ⟨st.b, st.is.set (n - 1) false, st.room⟩ else st
structure StAt (w : World) (sp : Nat) (st : St) (D : Nat → Prop) : Prop where
 es : ∃ ab cb ai ci, Blk w sp 51 (0, 0) [.slice ab st.b.length cb, .slice ai st.b.length ci, .int .i64 (st.room : Int)] ∧ Own w 9 1 ab st.b.length cb (st.b.map strV) ∧ Own w 4 1 ai st.b.length ci (st.is.map .bool) ∧ (∀ j, blkOf ab j → D j) ∧ ∀ j, blkOf ai j → D j
 len : st.is.length = st.b.length
 dsp : D sp
 dlt : ∀ j, D j → j < w.heap.size
 few : st.b.length ≤ 1000000 ∧ st.room ≤ 1000
 all : ∀ l ∈ st.b, l.length = 512
theorem StAt.kp {S : Nat → Prop} {w w' : World} {sp : Nat} {st : St} {D : Nat → Prop} (h : StAt w sp st D) (k : Kp S w w') (hS : ∀ j, D j → ¬ S j) : StAt w' sp st D := by
 obtain ⟨ab, cb, ai, ci, h1, h2, h3, h4, h5⟩ := h.es
 exact ⟨⟨ab, cb, ai, ci, h1.kp k (hS _ h.dsp), h2.kp k fun j hj => hS j (h4 j hj), h3.kp k fun j hj => hS j (h5 j hj), h4, h5⟩, h.len, h.dsp, fun j hj => Nat.lt_of_lt_of_le (h.dlt j hj) k.size, h.few, h.all⟩
theorem StAt.kpn {w w' : World} {sp : Nat} {st : St} {D : Nat → Prop} (h : StAt w sp st D) (k : Kp No w w') : StAt w' sp st D := h.kp k fun _ _ h => h
end Go.Mt
namespace Go.Proofs.YtfngacepjcdlnaaDoor
open Go Go.Kx Go.Kr Go.Mt
instance : TM Tryd.prog 47 "Load" 172 := ⟨by kernel_rfl, ⟨_, Tryd.underlying47⟩⟩
instance : TM Tryd.prog 47 "Save" 173 := ⟨by kernel_rfl, ⟨_, Tryd.underlying47⟩⟩
instance : TM Tryd.prog 47 "Drop" 171 := ⟨by kernel_rfl, ⟨_, Tryd.underlying47⟩⟩
theorem own_in {w : World} {E : TypeId} {s m cap : Nat} {a : Option Addr} {cs : List Value} (h : Own w E s a m cap cs) (h0 : 0 < m) : ∃ b sp, a = some ⟨b, 0, none⟩ ∧ Blk w b E (0, 0) (cs ++ sp) ∧ (cs ++ sp).length = cap * s ∧ Seg w b 0 cs := by
 obtain ⟨_, h2, _, h4⟩ := h
 rcases h4 with ⟨_, h⟩ | ⟨b, sp, e, hB, hl⟩
 ·omega
 ·exact ⟨b, sp, e, hB, hl, fun j hj => by rw [Nat.zero_add, hB.cell, List.getElem?_append_left hj]⟩
theorem count_snoc (l : List Bool) (i : Nat) (h : i < l.length) : (l.take (i + 1)).count true = (l.take i).count true + if l[i] = true then 1 else 0 := by
 rw [List.take_succ_eq_append_getElem h, List.count_append]
 cases l[i] <;> rfl
set_option maxRecDepth 100000 in
theorem count_calls (st : St) (sp : Nat) (w : World) {D : Nat → Prop} (h : StAt w sp st D) :
  Calls Tryd.prog 94 #[.pointer (some ⟨sp, 0, none⟩)] w fun e w' => e = .returned (.int .i64 (st.count : Nat)) ∧ w = w' := by
 refine calls_at (n := 24) Tryd.func94 rfl rfl (by simp) ?_
 obtain ⟨ab, cb, ai, ci, hB, hOb, hOi, _, _⟩ := h.es
 have hlen := h.len
 have hfew := h.few
 (refine At_seq (At_region ?_); refine s_as ?_; refine AtR_nil (At_seq (At_region ?_)); refine s_as ?_; refine AtR_nil (At_seq (At_seq (At_region ?_))); refine s_as ?_; refine AtR_nil (At_block ?_))
 refine At_while (fun i : Nat => [(0, .pointer (some ⟨sp, 0, none⟩)), (3, .int .i64 ((st.is.take i).count true : Nat)), (4, .int .i64 (i : Int))])
  (fun i w' => i ≤ st.b.length ∧ w = w') (fun i => st.b.length - i) 0 ⟨rfl, rfl, rfl, trivial⟩ ⟨by omega, rfl⟩ ?_
 rintro i w1 junk ⟨hi, rfl⟩ again
 have hc := List.count_le_length (a := true) (l := st.is.take i)
 by_cases hlt : i < st.b.length
 ·obtain ⟨b, spare, rfl, _, _, hseg⟩ := own_in hOi (by omega)
  have hget : (st.is.map Value.bool)[i]? = some (.bool (st.is[i]'(by omega))) := by simp [show i < st.is.length by omega]
  have hsn := count_snoc st.is i (by omega)
  have hcl : (st.is.take i).length ≤ 1000000 := by simp; omega
  (refine At_seq (At_seq (At_region ?_)); refine s_mv ?_; refine s_mv ?_; refine s_nc ?_; refine s_fa ?_; refine s_ld ?_; refine s_ln ?_; refine s_lss ?_; refine AtR_nil ?_; refine At_cond_t rfl ?_; refine At_skip (At_seq (At_block (At_seq (At_region ?_)))); refine s_mv ?_; refine s_nc ?_; refine s_fa ?_; refine s_ld ?_; refine s_mv ?_; refine s_ia ?_)
  refine s_val (x_load_seg rfl hseg hget) ?_
  (refine AtR_nil ?_)
  cases hb : st.is[i]'(by omega) with
  | true =>
   rw [hb] at hsn
   (refine At_cond_t rfl ?_; refine At_region ?_; refine s_mv ?_; refine s_ad ?_; refine s_as ?_; refine AtR_nil (At_inBlock (At_region ?_)); refine s_mv ?_; refine s_ad ?_; refine s_as ?_; refine AtR_nil ?_)
   rw [show (((st.is.take i).count true : Nat) : Int) + 1 = (((st.is.take (i + 1)).count true : Nat) : Int) by rw [hsn]; simp]
   exact again (i + 1) _ _ ⟨rfl, rfl, rfl, trivial⟩ ⟨hlt, rfl⟩ (by omega)
  | false =>
   rw [hb] at hsn
   (refine At_cond_f rfl ?_; refine At_skip (At_inBlock (At_region ?_)); refine s_mv ?_; refine s_ad ?_; refine s_as ?_; refine AtR_nil ?_)
   rw [show (st.is.take i).count true = (st.is.take (i + 1)).count true by rw [hsn]; simp]
   exact again (i + 1) _ _ ⟨rfl, rfl, rfl, trivial⟩ ⟨hlt, rfl⟩ (by omega)
 have hie : i = st.b.length := by omega
 clear again
 subst hie
 rw [List.take_of_length_le (by omega)]
 (refine At_seq (At_seq (At_region ?_)); refine s_mv ?_; refine s_mv ?_; refine s_nc ?_; refine s_fa ?_; refine s_ld ?_; refine s_ln ?_; refine s_lss ?_; refine AtR_nil ?_; refine At_cond_f rfl ?_; refine At_exit rfl ?_; refine At_seq (At_region ?_); refine s_mv ?_; refine s_as ?_; refine AtR_nil ?_)
 refine At_ret1 Tryd.func94 rfl (by conv => lhs; whnf) ?_
 exact ⟨rfl, rfl⟩
theorem at_no {st : St} {n : Nat} (h : n < 1 ∨ st.b.length < n ∨ st.is.getD (n - 1) false = false) : st.at n = none := by
 unfold St.at
 rw [if_neg]
 rintro ⟨h1, h2, h3⟩
 rcases h with h | h | h
 ·omega
 ·omega
 ·rw [h] at h3; cases h3
theorem at_yes {st : St} {n : Nat} (h1 : 1 ≤ n) (h2 : n ≤ st.b.length) (h3 : st.is.getD (n - 1) false = true) : st.at n = some (st.b.getD (n - 1) []) := by
 unfold St.at
 rw [if_pos ⟨h1, h2, h3⟩]
theorem bool_at {st : St} {w : World} {sp : Nat} {D : Nat → Prop} {n : Nat} (h : StAt w sp st D) (h1 : 1 ≤ n) (h2 : n ≤ st.b.length) : (st.is.map Value.bool)[n - 1]? = some (.bool (st.is.getD (n - 1) false)) := by
 have := h.len
 simp [List.getD, show n - 1 < st.is.length by omega]
set_option maxRecDepth 100000 in
set_option maxHeartbeats 4000000 in
theorem sload_calls (st : St) (n : Nat) (sp : Nat) (w : World) {D : Nat → Prop} (h : StAt w sp st D) (hn : n < 9223372036854775808) :
  Calls Tryd.prog 172 #[.pointer (some ⟨sp, 0, none⟩), .int .i64 (n : Int)] w fun e w' => Kp No w w' ∧
   match st.at n with
   | some l => ∃ b cap, e = .returned (.tuple #[.slice (some ⟨b, 0, none⟩) 512 cap, .int .i64 0]) ∧ Sl w' .u8 (some ⟨b, 0, none⟩) 512 cap (bs8 l) ∧ w.heap.size ≤ b ∧ l.length = 512
   | none => e = .returned (.tuple #[.slice none 0 0, .int .i64 2]) := by
 refine calls_at (n := 37) Tryd.func172 rfl rfl (by simp) ?_
 obtain ⟨ab, cb, ai, ci, hB, hOb, hOi, _, _⟩ := h.es
 have hlen := h.len
 have hfew := h.few
 by_cases h1 : n < 1
 ·rw [at_no (.inl h1)]
  (refine At_seq (At_region ?_); refine s_as ?_; refine s_as ?_; refine AtR_nil (At_seq (At_seq (At_region ?_))); refine s_mv ?_; refine s_lss ?_; refine s_mv ?_; refine s_no rfl rfl rfl rfl ?_; refine s_no rfl rfl rfl rfl ?_; refine s_no rfl rfl rfl rfl ?_; refine s_no rfl rfl rfl rfl ?_; refine s_no rfl rfl rfl rfl ?_; refine s_no rfl rfl rfl rfl ?_; refine s_no rfl rfl rfl rfl ?_; refine s_pt ?_; refine s_mv ?_; refine s_no rfl rfl rfl rfl ?_; refine s_no rfl rfl rfl rfl ?_; refine s_no rfl rfl rfl rfl ?_; refine s_no rfl rfl rfl rfl ?_; refine s_no rfl rfl rfl rfl ?_; refine s_no rfl rfl rfl rfl ?_; refine s_no rfl rfl rfl rfl ?_; refine s_no rfl rfl rfl rfl ?_; refine s_no rfl rfl rfl rfl ?_; refine s_pt ?_; refine AtR_nil ?_; refine At_cond_t rfl ?_; refine At_seq (At_region ?_); refine s_as ?_; refine s_as ?_; refine AtR_nil ?_)
  refine At_ret2 Tryd.func172 rfl (by conv => lhs; whnf) (by conv => lhs; whnf) ?_
  exact ⟨Kp.refl _ _, rfl⟩
 by_cases h2 : st.b.length < n
 ·rw [at_no (.inr (.inl h2))]
  (refine At_seq (At_region ?_); refine s_as ?_; refine s_as ?_; refine AtR_nil (At_seq (At_seq (At_region ?_))); refine s_mv ?_; refine s_lss ?_; refine s_mv ?_; refine s_yes rfl rfl rfl rfl ?_; refine g_mv ?_; refine s_yes rfl rfl rfl rfl ?_; refine g_mv ?_; refine s_yes rfl rfl rfl rfl ?_; refine g_nc ?_; refine s_yes rfl rfl rfl rfl ?_; refine g_fa ?_; refine s_yes rfl rfl rfl rfl ?_; refine g_ld ?_; refine s_yes rfl rfl rfl rfl ?_; refine g_ln ?_; refine s_yes rfl rfl rfl rfl ?_; refine g_gtr ?_; refine s_pf ?_; refine s_mv ?_; refine s_no rfl rfl rfl rfl ?_; refine s_no rfl rfl rfl rfl ?_; refine s_no rfl rfl rfl rfl ?_; refine s_no rfl rfl rfl rfl ?_; refine s_no rfl rfl rfl rfl ?_; refine s_no rfl rfl rfl rfl ?_; refine s_no rfl rfl rfl rfl ?_; refine s_no rfl rfl rfl rfl ?_; refine s_no rfl rfl rfl rfl ?_; refine s_pt ?_; refine AtR_nil ?_; refine At_cond_t rfl ?_; refine At_seq (At_region ?_); refine s_as ?_; refine s_as ?_; refine AtR_nil ?_)
  refine At_ret2 Tryd.func172 rfl (by conv => lhs; whnf) (by conv => lhs; whnf) ?_
  exact ⟨Kp.refl _ _, rfl⟩
 obtain ⟨b, spare, rfl, _, _, hseg⟩ := own_in hOi (by omega)
 have hget := bool_at h (by omega) (by omega : n ≤ st.b.length)
 have hk : ((n : Int) - 1).toNat = n - 1 := by omega
 rcases Bool.eq_false_or_eq_true (st.is.getD (n - 1) false) with h3 | h3
 ·rw [at_yes (by omega) (by omega) h3]
  rw [h3] at hget
  obtain ⟨bb, spb, rfl, _, _, hsegb⟩ := own_in hOb (by omega)
  have hgb : (st.b.map strV)[n - 1]? = some (strV (st.b.getD (n - 1) [])) := by simp [List.getD, show n - 1 < st.b.length by omega]
  have hl512 : (st.b.getD (n - 1) []).length = 512 := by
   have e : st.b.getD (n - 1) [] = st.b[n - 1]'(by omega) := by simp [List.getD, show n - 1 < st.b.length by omega]
   rw [e]; exact h.all _ (List.getElem_mem _)
  (refine At_seq (At_region ?_); refine s_as ?_; refine s_as ?_; refine AtR_nil (At_seq (At_seq (At_region ?_))); refine s_mv ?_; refine s_lss ?_; refine s_mv ?_; refine s_yes rfl rfl rfl rfl ?_; refine g_mv ?_; refine s_yes rfl rfl rfl rfl ?_; refine g_mv ?_; refine s_yes rfl rfl rfl rfl ?_; refine g_nc ?_; refine s_yes rfl rfl rfl rfl ?_; refine g_fa ?_; refine s_yes rfl rfl rfl rfl ?_; refine g_ld ?_; refine s_yes rfl rfl rfl rfl ?_; refine g_ln ?_; refine s_yes rfl rfl rfl rfl ?_; refine g_gtr ?_; refine s_pf ?_; refine s_mv ?_; refine s_yes rfl rfl rfl rfl ?_; refine g_mv ?_; refine s_yes rfl rfl rfl rfl ?_; refine g_nc ?_; refine s_yes rfl rfl rfl rfl ?_; refine g_fa ?_; refine s_yes rfl rfl rfl rfl ?_; refine g_ld ?_; refine s_yes rfl rfl rfl rfl ?_; refine g_mv ?_; refine s_yes rfl rfl rfl rfl ?_; refine g_sb ?_; refine s_yes rfl rfl rfl rfl ?_; refine g_ia ?_)
  rw [hk]
  refine s_yes rfl rfl rfl rfl (g_val (x_load_seg rfl hseg hget) ?_)
  (refine s_yes rfl rfl rfl rfl ?_; refine g_nt ?_; refine s_pf ?_; refine AtR_nil ?_; refine At_cond_f rfl ?_; refine At_skip (At_seq (At_region ?_)); refine s_mv ?_; refine s_nc ?_; refine s_fa ?_; refine s_ld ?_; refine s_mv ?_; refine s_sb ?_; refine s_ia ?_)
  rw [hk]
  refine s_val (x_load_seg rfl hsegb hgb) ?_
  refine AtR_go rfl (G_val (r_conv_sb rfl (by rw [hl512]; simp only [maxLen]; omega)) ?_)
  rintro _ w1 ⟨b1, c1, rfl, hb1, hsl, k1⟩
  (refine s_as ?_; refine s_as ?_; refine AtR_nil ?_)
  refine At_ret2 Tryd.func172 rfl (by conv => lhs; whnf) (by conv => lhs; whnf) ?_
  rw [hl512] at hsl ⊢
  exact ⟨k1, b1, c1, rfl, hsl, by omega, hl512⟩
 ·rw [at_no (.inr (.inr h3))]
  rw [h3] at hget
  (refine At_seq (At_region ?_); refine s_as ?_; refine s_as ?_; refine AtR_nil (At_seq (At_seq (At_region ?_))); refine s_mv ?_; refine s_lss ?_; refine s_mv ?_; refine s_yes rfl rfl rfl rfl ?_; refine g_mv ?_; refine s_yes rfl rfl rfl rfl ?_; refine g_mv ?_; refine s_yes rfl rfl rfl rfl ?_; refine g_nc ?_; refine s_yes rfl rfl rfl rfl ?_; refine g_fa ?_; refine s_yes rfl rfl rfl rfl ?_; refine g_ld ?_; refine s_yes rfl rfl rfl rfl ?_; refine g_ln ?_; refine s_yes rfl rfl rfl rfl ?_; refine g_gtr ?_; refine s_pf ?_; refine s_mv ?_; refine s_yes rfl rfl rfl rfl ?_; refine g_mv ?_; refine s_yes rfl rfl rfl rfl ?_; refine g_nc ?_; refine s_yes rfl rfl rfl rfl ?_; refine g_fa ?_; refine s_yes rfl rfl rfl rfl ?_; refine g_ld ?_; refine s_yes rfl rfl rfl rfl ?_; refine g_mv ?_; refine s_yes rfl rfl rfl rfl ?_; refine g_sb ?_; refine s_yes rfl rfl rfl rfl ?_; refine g_ia ?_)
  rw [hk]
  refine s_yes rfl rfl rfl rfl (g_val (x_load_seg rfl hseg hget) ?_)
  (refine s_yes rfl rfl rfl rfl ?_; refine g_nt ?_; refine s_pf ?_; refine AtR_nil ?_; refine At_cond_t rfl ?_; refine At_seq (At_region ?_); refine s_as ?_; refine s_as ?_; refine AtR_nil ?_)
  refine At_ret2 Tryd.func172 rfl (by conv => lhs; whnf) (by conv => lhs; whnf) ?_
  exact ⟨Kp.refl _ _, rfl⟩
end Go.Proofs.YtfngacepjcdlnaaDoor
namespace Go.Mt
open Go Go.Kx Go.Proofs.YtfngacepjcdlnaaDoor
def StTo (w w' : World) (sp : Nat) (D : Nat → Prop) (st : St) : Prop := ∃ D', StAt w' sp st D' ∧ (∀ j, D' j → D j ∨ w.heap.size ≤ j) ∧ Kp D w w'
theorem stTo_same {w w' : World} {sp : Nat} {D : Nat → Prop} {st : St} (h : StAt w sp st D) (k : Kp No w w') : StTo w w' sp D st := ⟨D, h.kpn k, fun _ h => .inl h, k.mono fun _ h => h.elim⟩
theorem own_store {w w' : World} {E : TypeId} {b m cap i : Nat} {v : Value} {cs sp : List Value} (h : Own w E 1 (some ⟨b, 0, none⟩) m cap cs) (hl : (cs ++ sp).length = cap * 1) (hi : i < m) (e : Eff w w' b (.cells ((cs ++ sp).set i v).toArray E (0, 0))) : Own w' E 1 (some ⟨b, 0, none⟩) m cap (cs.set i v) := by
 obtain ⟨h1, h2, h3, _⟩ := h
 have e2 := e.blk
 rw [List.set_append_left _ _ (by omega)] at e2
 exact ⟨by rw [List.length_set]; exact h1, h2, h3, .inr ⟨b, sp, rfl, e2, by rw [← List.set_append_left _ _ (by omega), List.length_set]; exact hl⟩⟩
end Go.Mt
namespace Go.Proofs.YtfngacepjcdlnaaDoor
open Go Go.Kx Go.Kr Go.Mt
set_option maxRecDepth 100000 in
set_option maxHeartbeats 4000000 in
theorem sdrop_calls (st : St) (n : Nat) (sp : Nat) (w : World) {D : Nat → Prop} (h : StAt w sp st D) (hn : n < 9223372036854775808) :
  Calls Tryd.prog 171 #[.pointer (some ⟨sp, 0, none⟩), .int .i64 (n : Int)] w fun e w' => (∃ c : Int, e = .returned (.int .i64 c)) ∧ StAt w' sp (st.drop n) D ∧ Kp D w w' := by
 refine calls_at (n := 34) Tryd.func171 rfl rfl (by simp) ?_
 obtain ⟨ab, cb, ai, ci, hB, hOb, hOi, hDb, hDi⟩ := h.es
 have hlen := h.len
 have hfew := h.few
 have no : st.at n = none → st.drop n = st := fun e => by unfold St.drop; rw [e]; rfl
 by_cases h1 : n < 1
 ·rw [no (at_no (.inl h1))]
  (refine At_seq (At_region ?_); refine s_as ?_; refine AtR_nil (At_seq (At_seq (At_region ?_))); refine s_mv ?_; refine s_lss ?_; refine s_mv ?_; refine s_no rfl rfl rfl rfl ?_; refine s_no rfl rfl rfl rfl ?_; refine s_no rfl rfl rfl rfl ?_; refine s_no rfl rfl rfl rfl ?_; refine s_no rfl rfl rfl rfl ?_; refine s_no rfl rfl rfl rfl ?_; refine s_no rfl rfl rfl rfl ?_; refine s_pt ?_; refine s_mv ?_; refine s_no rfl rfl rfl rfl ?_; refine s_no rfl rfl rfl rfl ?_; refine s_no rfl rfl rfl rfl ?_; refine s_no rfl rfl rfl rfl ?_; refine s_no rfl rfl rfl rfl ?_; refine s_no rfl rfl rfl rfl ?_; refine s_no rfl rfl rfl rfl ?_; refine s_no rfl rfl rfl rfl ?_; refine s_no rfl rfl rfl rfl ?_; refine s_pt ?_; refine AtR_nil ?_; refine At_cond_t rfl ?_; refine At_seq (At_region ?_); refine s_as ?_; refine AtR_nil ?_)
  refine At_ret1 Tryd.func171 rfl (by conv => lhs; whnf) ?_
  exact ⟨⟨_, rfl⟩, h, Kp.refl _ _⟩
 by_cases h2 : st.b.length < n
 ·rw [no (at_no (.inr (.inl h2)))]
  (refine At_seq (At_region ?_); refine s_as ?_; refine AtR_nil (At_seq (At_seq (At_region ?_))); refine s_mv ?_; refine s_lss ?_; refine s_mv ?_; refine s_yes rfl rfl rfl rfl ?_; refine g_mv ?_; refine s_yes rfl rfl rfl rfl ?_; refine g_mv ?_; refine s_yes rfl rfl rfl rfl ?_; refine g_nc ?_; refine s_yes rfl rfl rfl rfl ?_; refine g_fa ?_; refine s_yes rfl rfl rfl rfl ?_; refine g_ld ?_; refine s_yes rfl rfl rfl rfl ?_; refine g_ln ?_; refine s_yes rfl rfl rfl rfl ?_; refine g_gtr ?_; refine s_pf ?_; refine s_mv ?_; refine s_no rfl rfl rfl rfl ?_; refine s_no rfl rfl rfl rfl ?_; refine s_no rfl rfl rfl rfl ?_; refine s_no rfl rfl rfl rfl ?_; refine s_no rfl rfl rfl rfl ?_; refine s_no rfl rfl rfl rfl ?_; refine s_no rfl rfl rfl rfl ?_; refine s_no rfl rfl rfl rfl ?_; refine s_no rfl rfl rfl rfl ?_; refine s_pt ?_; refine AtR_nil ?_; refine At_cond_t rfl ?_; refine At_seq (At_region ?_); refine s_as ?_; refine AtR_nil ?_)
  refine At_ret1 Tryd.func171 rfl (by conv => lhs; whnf) ?_
  exact ⟨⟨_, rfl⟩, h, Kp.refl _ _⟩
 obtain ⟨b, spare, rfl, hBi, hli, hseg⟩ := own_in hOi (by omega)
 have hget := bool_at h (by omega) (by omega : n ≤ st.b.length)
 have hk : ((n : Int) - 1).toNat = n - 1 := by omega
 rcases Bool.eq_false_or_eq_true (st.is.getD (n - 1) false) with h3 | h3
 ·have hd : st.drop n = ⟨st.b, st.is.set (n - 1) false, st.room⟩ := by unfold St.drop; rw [at_yes (by omega) (by omega) h3]; rfl
  rw [hd]
  rw [h3] at hget
  (refine At_seq (At_region ?_); refine s_as ?_; refine AtR_nil (At_seq (At_seq (At_region ?_))); refine s_mv ?_; refine s_lss ?_; refine s_mv ?_; refine s_yes rfl rfl rfl rfl ?_; refine g_mv ?_; refine s_yes rfl rfl rfl rfl ?_; refine g_mv ?_; refine s_yes rfl rfl rfl rfl ?_; refine g_nc ?_; refine s_yes rfl rfl rfl rfl ?_; refine g_fa ?_; refine s_yes rfl rfl rfl rfl ?_; refine g_ld ?_; refine s_yes rfl rfl rfl rfl ?_; refine g_ln ?_; refine s_yes rfl rfl rfl rfl ?_; refine g_gtr ?_; refine s_pf ?_; refine s_mv ?_; refine s_yes rfl rfl rfl rfl ?_; refine g_mv ?_; refine s_yes rfl rfl rfl rfl ?_; refine g_nc ?_; refine s_yes rfl rfl rfl rfl ?_; refine g_fa ?_; refine s_yes rfl rfl rfl rfl ?_; refine g_ld ?_; refine s_yes rfl rfl rfl rfl ?_; refine g_mv ?_; refine s_yes rfl rfl rfl rfl ?_; refine g_sb ?_; refine s_yes rfl rfl rfl rfl ?_; refine g_ia ?_)
  rw [hk]
  refine s_yes rfl rfl rfl rfl (g_val (x_load_seg rfl hseg hget) ?_)
  (refine s_yes rfl rfl rfl rfl ?_; refine g_nt ?_; refine s_pf ?_; refine AtR_nil ?_; refine At_cond_f rfl ?_; refine At_skip (At_seq (At_region ?_)); refine s_mv ?_; refine s_nc ?_; refine s_fa ?_; refine s_ld ?_; refine s_mv ?_; refine s_sb ?_; refine s_ia ?_)
  rw [hk]
  have hmi : (st.is.map Value.bool).length = st.b.length := by simp [hlen]
  refine AtR_go rfl (G_skip (r_store1 (v := .bool false) rfl rfl hBi (by rw [List.length_append]; omega) rfl rfl) fun w1 e1 => ?_)
  have k1 : Kp (fun j => j = b) w w1 := e1.kp (.inl rfl)
  have hne : sp ≠ b := hB.ne hBi (by decide)
  have hnb : ∀ j, blkOf ab j → ¬ j = b := fun j hj e => by
   obtain ⟨_, hb⟩ := hOb.blk_of hj
   exact hb.ne hBi (by decide) e
  rw [Nat.zero_add] at e1
  have hOi' := own_store hOi hli (by omega) e1
  rw [← List.map_set] at hOi'
  (refine AtR_nil (At_seq (At_region ?_)); refine s_as ?_; refine AtR_nil ?_)
  refine At_ret1 Tryd.func171 rfl (by conv => lhs; whnf) ?_
  exact ⟨⟨_, rfl⟩, ⟨⟨ab, cb, some ⟨b, 0, none⟩, ci, hB.kp k1 hne, hOb.kp k1 hnb, hOi', hDb, hDi⟩, by rw [List.length_set]; exact hlen, h.dsp, fun j hj => Nat.lt_of_lt_of_le (h.dlt j hj) k1.size, h.few, h.all⟩, k1.mono (by rintro j rfl; exact hDi _ rfl)⟩
 ·rw [no (at_no (.inr (.inr h3)))]
  rw [h3] at hget
  (refine At_seq (At_region ?_); refine s_as ?_; refine AtR_nil (At_seq (At_seq (At_region ?_))); refine s_mv ?_; refine s_lss ?_; refine s_mv ?_; refine s_yes rfl rfl rfl rfl ?_; refine g_mv ?_; refine s_yes rfl rfl rfl rfl ?_; refine g_mv ?_; refine s_yes rfl rfl rfl rfl ?_; refine g_nc ?_; refine s_yes rfl rfl rfl rfl ?_; refine g_fa ?_; refine s_yes rfl rfl rfl rfl ?_; refine g_ld ?_; refine s_yes rfl rfl rfl rfl ?_; refine g_ln ?_; refine s_yes rfl rfl rfl rfl ?_; refine g_gtr ?_; refine s_pf ?_; refine s_mv ?_; refine s_yes rfl rfl rfl rfl ?_; refine g_mv ?_; refine s_yes rfl rfl rfl rfl ?_; refine g_nc ?_; refine s_yes rfl rfl rfl rfl ?_; refine g_fa ?_; refine s_yes rfl rfl rfl rfl ?_; refine g_ld ?_; refine s_yes rfl rfl rfl rfl ?_; refine g_mv ?_; refine s_yes rfl rfl rfl rfl ?_; refine g_sb ?_; refine s_yes rfl rfl rfl rfl ?_; refine g_ia ?_)
  rw [hk]
  refine s_yes rfl rfl rfl rfl (g_val (x_load_seg rfl hseg hget) ?_)
  (refine s_yes rfl rfl rfl rfl ?_; refine g_nt ?_; refine s_pf ?_; refine AtR_nil ?_; refine At_cond_t rfl ?_; refine At_seq (At_region ?_); refine s_as ?_; refine AtR_nil ?_)
  refine At_ret1 Tryd.func171 rfl (by conv => lhs; whnf) ?_
  exact ⟨⟨_, rfl⟩, h, Kp.refl _ _⟩
set_option maxRecDepth 100000 in
set_option maxHeartbeats 4000000 in
theorem ssave_calls (st : St) (l : List UInt8) (sp : Nat) (a : Option Addr) (len cap : Nat) (w : World) {D Db : Nat → Prop} (h : StAt w sp st D) (hs : SlE w .u8 a len cap (bs8 l) Db) (hdis : ∀ j, Db j → ¬ D j) (hl : l.length = 512) (hfew : st.b.length < 1000000) :
  Calls Tryd.prog 173 #[.pointer (some ⟨sp, 0, none⟩), .slice a len cap] w fun e w' =>
   if st.room ≤ st.count then e = .returned (.tuple #[.int .i64 0, .int .i64 12]) ∧ StTo w w' sp D st else e = .returned (.tuple #[.int .i64 ((st.b.length + 1 : Nat) : Int), .int .i64 0]) ∧ StTo w w' sp D (st.save l) := by
 have hll := hs.len_eq
 simp only [bs8_length] at hll
 subst hll
 refine calls_at (n := 38) Tryd.func173 rfl rfl (by simp) ?_
 obtain ⟨ab, cb, ai, ci, hB, hOb, hOi, hDb, hDi⟩ := h.es
 have hlen := h.len
 have hroom := h.few.2
 have hcl : st.count ≤ st.is.length := List.count_le_length
 (refine At_seq (At_region ?_); refine s_as ?_; refine s_as ?_; refine AtR_nil (At_seq ?_); refine At_seq ?_)
 have kd := Kp.drew (S := No) (w := w)
 have hd := h.kpn kd
 refine At_draw (fun w' => Blk w' sp 51 (0, 0) [.slice ab st.b.length cb, .slice ai st.b.length ci, .int .i64 (st.room : Int)]) rfl ?_
 have hS : Blk w.drew sp 51 (0, 0) [.slice ab st.b.length cb, .slice ai st.b.length ci, .int .i64 (st.room : Int)] := hB.kp kd fun h => h
 (apply AtH_take 0 rfl (by decide +kernel) (by exact rfl); (focus (intro wx hx; skip; exact x_move (by conv => lhs; whnf))); (focus (exact hS)))
 (apply AtH_take 2 rfl (by decide +kernel) (by exact rfl); (focus (intro wx hx; skip; exact x_move (by conv => lhs; whnf))); (focus (exact hS)))
 (apply AtH_take 3 rfl (by decide +kernel) (by exact rfl); (focus (intro wx hx; skip; exact x_nilCheck rfl)); (focus (exact hS)))
 (apply AtH_take 4 rfl (by decide +kernel) (by exact rfl); (focus (intro wx hx; skip; exact x_fieldAddrN rfl (by first | exact Nat.zero_add _ | exact Nat.add_zero _ | (simp only [Nat.reduceAdd] <;> rfl) | exact rfl))); (focus (exact hS)))
 refine AtH_take 5 rfl (by decide +kernel) (by exact rfl) (fun wx hx => x_load1 rfl hx rfl) hS ?_
 refine AtH_call 1 rfl (by decide +kernel) (by exact rfl) x_call  (count_calls st sp _ hd) ?_
 rintro _ _ ⟨rfl, rfl⟩
 refine ⟨_, rfl, hS, ?_⟩
 by_cases hge : st.room ≤ st.count
 ·simp only [if_pos hge]
  (apply AtH_bool 6 rfl (by decide +kernel) (by exact rfl); (focus (intro wx hx; skip; exact x_geq rfl rfl)); (focus (exact decide_eq_true (by omega))); (focus (exact hS)))
  refine AtH_done (by decide +kernel) ?_
  (refine At_cond_t rfl ?_; refine At_seq (At_region ?_); refine s_as ?_; refine s_as ?_; refine AtR_nil ?_)
  refine At_ret2 Tryd.func173 rfl (by conv => lhs; whnf) (by conv => lhs; whnf) ?_
  exact ⟨rfl, stTo_same h kd⟩
 simp only [if_neg hge]
 (apply AtH_bool 6 rfl (by decide +kernel) (by exact rfl); (focus (intro wx hx; skip; exact x_geq rfl rfl)); (focus (exact decide_eq_false (by omega))); (focus (exact hS)))
 refine AtH_done (by decide +kernel) ?_
 (refine At_cond_f rfl ?_; refine At_skip (At_seq ?_))
 replace hB := hS
 replace hOb := hOb.kp kd fun _ _ h => h
 replace hOi := hOi.kp kd fun _ _ h => h
 replace hs := hs.kpn kd
 clear hS
 have kd2 := Kp.drew (S := No) (w := w.drew)
 let S : World → Prop := fun w' => Blk w' sp 51 (0, 0) [.slice ab st.b.length cb, .slice ai st.b.length ci, .int .i64 (st.room : Int)] ∧ SlE w' .u8 a l.length cap (bs8 l) Db
 refine AtL_draw S 11 rfl ?_
 have hS : S w.drew.drew := ⟨hB.kp kd2 fun h => h, hs.kpn kd2⟩
 (apply AtL_take 0 rfl (by decide +kernel) (by exact rfl); (focus (intro wx hx; skip; exact x_move (by conv => lhs; whnf))); (focus (exact hS)))
 (apply AtL_take 1 rfl (by decide +kernel) (by exact rfl); (focus (intro wx hx; skip; exact x_move (by conv => lhs; whnf))); (focus (exact hS)))
 (apply AtL_take 2 rfl (by decide +kernel) (by exact rfl); (focus (intro wx hx; skip; exact x_nilCheck rfl)); (focus (exact hS)))
 (apply AtL_take 3 rfl (by decide +kernel) (by exact rfl); (focus (intro wx hx; skip; exact x_fieldAddrN rfl (by first | exact Nat.zero_add _ | exact Nat.add_zero _ | (simp only [Nat.reduceAdd] <;> rfl) | exact rfl))); (focus (exact hS)))
 (apply AtL_take 5 rfl (by decide +kernel) (by exact rfl); (focus (intro wx hx; skip; exact x_move (by conv => lhs; whnf))); (focus (exact hS)))
 refine AtL_take 4 rfl (by decide +kernel) (by exact rfl) (fun wx hx => x_load1 rfl hx.1 rfl) hS ?_
 refine AtL_take 6 rfl (by decide +kernel) (by exact rfl) (fun wx hx => x_conv_bs rfl hx.2) hS ?_
 refine L_val 7 rfl (by decide +kernel) (by exact rfl) (r_buildSlice1 (os := [_]) rfl rfl (by omega) rfl rfl rfl) ?_
 rintro _ w3 ⟨b3, rfl, hb3, e3⟩
 have B3 : Blk w3 b3 9 (0, 0) [strV l] := e3.blk
 have k3 : Kp No w.drew.drew w3 := e3.kp (.inr (by omega))
 clear e3
 have hS3 : S w3 := ⟨hS.1.kp k3 fun h => h, hS.2.kpn k3⟩
 refine ⟨.inr hS3, ?_⟩
 have hOb3 := hOb.kp (kd2.trans k3) fun _ _ h => h
 have hsrc : Src Tryd.prog 1 48 (.slice (some ⟨b3, 0, none⟩) 1 1) 1 [strV l] w3 :=
  Src.ofSlice w3 (e' := 9) (by exact (inferInstance : TU Tryd.prog 48 (.slice 9)).h) ⟨b3, 0, none⟩ 1 1 _ rfl (fun j u hj => by rw [add_none, Nat.zero_add, B3.cell, hj]) (fun u hu => by rw [List.mem_singleton] at hu; subst hu; rfl)
 refine L_val 8 rfl (by decide +kernel) (by exact rfl) (r_append rfl rfl hOb3 hsrc rfl (by omega) (by simp only [maxLen]; omega) (by omega)) ?_
 rintro _ w4 ⟨a4, c4, rfl, hOb4, k4, hf4⟩
 have hspb : ¬ blkOf ab sp := fun hj => by obtain ⟨_, hb⟩ := hOb3.blk_of hj; exact hb.ne hS3.1 (by decide) rfl
 have hS4 : S w4 := ⟨hS3.1.kp k4 hspb, hS3.2.kp k4 fun j hj hb => hdis j hj (hDb j hb)⟩
 refine ⟨.inr hS4, ?_⟩
 clear hS
 have hS := hS4
 (apply AtL_take 9 rfl (by decide +kernel) (by exact rfl); (focus (intro wx hx; skip; exact x_nilCheck rfl)); (focus (exact hS)))
 (apply AtL_take 10 rfl (by decide +kernel) (by exact rfl); (focus (intro wx hx; skip; exact x_fieldAddrN rfl (by first | exact Nat.zero_add _ | exact Nat.add_zero _ | (simp only [Nat.reduceAdd] <;> rfl) | exact rfl))); (focus (exact hS)))
 refine L_skip 11 rfl (by decide +kernel) (by exact rfl) (r_store1 (v := .slice a4 (st.b.length + 1) c4) rfl rfl hS.1 (by simp) rfl rfl) ?_
 intro w5 e5
 refine ⟨.inl rfl, AtL_done (by decide +kernel) ?_⟩
 have B5 : Blk w5 sp 51 (0, 0) [.slice a4 (st.b.length + 1) c4, .slice ai st.b.length ci, .int .i64 (st.room : Int)] := e5.blk
 have k5 : Kp (fun j => j = sp) w4 w5 := e5.kp (.inl rfl)
 have ha4 : ∀ j, blkOf a4 j → blkOf ab j ∨ w3.heap.size ≤ j := fun j hj => by
  rcases hf4 with rfl | ⟨b, rfl, hb⟩
  ·exact .inl hj
  ·simp [blkOf] at hj; omega
 have hOi3 := hOi.kp (kd2.trans k3) fun _ _ h => h
 have hiab : ∀ j, blkOf ai j → ¬ blkOf ab j := fun j hj hb => by
  obtain ⟨_, h1⟩ := hOi3.blk_of hj
  obtain ⟨_, h2⟩ := hOb3.blk_of hb
  exact h1.ne h2 (by decide) rfl
 have hOi4 := hOi3.kp k4 hiab
 have hisp : ∀ j, blkOf ai j → ¬ j = sp := fun j hj e => by
  obtain ⟨_, h1⟩ := hOi4.blk_of hj
  exact h1.ne hS4.1 (by decide) e
 have hOi5 := hOi4.kp k5 hisp
 have hsp4 : ∀ j, blkOf a4 j → ¬ j = sp := fun j hj e => by
  obtain ⟨_, h1⟩ := hOb4.blk_of hj
  exact h1.ne hS4.1 (by decide) e
 have hOb5 := hOb4.kp k5 hsp4
 have K5 : Kp D w w5 := ((((kd.trans kd2).trans k3).mono fun _ h => h.elim).trans (k4.mono hDb)).trans (k5.mono (by rintro j rfl; exact h.dsp))
 have z3 := ((kd.trans kd2).trans k3).size
 have z4 := k4.size
 have z5 := k5.size
 clear hS hS3 hS4 e5 hOi3 hOi4 hOb4 hOb3 hsrc B3 hB hOb hOi k3 k4 k5 kd kd2 hs
 (refine At_seq (At_region ?_); refine s_mv ?_; refine s_mv ?_; refine s_nc ?_; refine s_fa ?_; refine s_ld ?_)
 refine AtR_go rfl (AtG_buildSlice1 (ops := [_]) rfl rfl (by omega) rfl rfl rfl fun b6 w6 hb6 e6 => ?_)
 have B6 : Blk w6 b6 4 (0, 0) [.bool true] := e6.blk
 have k6 : Kp No w5 w6 := e6.kp (.inr (by omega))
 clear e6
 have hsrc6 : Src Tryd.prog 1 49 (.slice (some ⟨b6, 0, none⟩) 1 1) 1 [.bool true] w6 :=
  Src.ofSlice w6 (e' := 4) (by exact (inferInstance : TU Tryd.prog 49 (.slice 4)).h) ⟨b6, 0, none⟩ 1 1 _ rfl (fun j u hj => by rw [add_none, Nat.zero_add, B6.cell, hj]) (fun u hu => by rw [List.mem_singleton] at hu; subst hu; rfl)
 have hOi6 := hOi5.kp k6 fun _ _ h => h
 have B56 := B5.kp k6 fun h => h
 have hOb6 := hOb5.kp k6 fun _ _ h => h
 refine AtR_go rfl (AtG_append (tx := 49) rfl rfl hOi6 hsrc6 rfl (by omega) (by simp only [maxLen]; omega) (by omega) fun a7 c7 w7 hOi7 k7 hf7 => ?_)
 have hspi : ¬ blkOf ai sp := fun hj => by obtain ⟨_, hb⟩ := hOi6.blk_of hj; exact hb.ne B56 (by decide) rfl
 have B7 := B56.kp k7 hspi
 have hOb7 := hOb6.kp k7 fun j hj hb => by
  obtain ⟨_, h1⟩ := hOb6.blk_of hj
  obtain ⟨_, h2⟩ := hOi6.blk_of hb
  exact h1.ne h2 (by decide) rfl
 have ha7 : ∀ j, blkOf a7 j → blkOf ai j ∨ w6.heap.size ≤ j := fun j hj => by
  rcases hf7 with rfl | ⟨b, rfl, hb⟩
  ·exact .inl hj
  ·simp [blkOf] at hj; omega
 have z6 := k6.size
 have z7 := k7.size
 (refine s_nc ?_; refine s_fa ?_)
 refine AtR_go rfl (G_skip (r_store1 (v := .slice a7 (st.b.length + 1) c7) rfl rfl B7 (by simp) rfl rfl) fun w8 e8 => ?_)
 have B8 : Blk w8 sp 51 (0, 0) [.slice a4 (st.b.length + 1) c4, .slice a7 (st.b.length + 1) c7, .int .i64 (st.room : Int)] := e8.blk
 have k8 : Kp (fun j => j = sp) w7 w8 := e8.kp (.inl rfl)
 have hOi8 := hOi7.kp k8 fun j hj e => by
  obtain ⟨_, h1⟩ := hOi7.blk_of hj
  exact h1.ne B7 (by decide) e
 have hOb8 := hOb7.kp k8 hsp4
 have K8 : Kp D w w8 := ((K5.trans (k6.mono fun _ h => h.elim)).trans (k7.mono hDi)).trans (k8.mono (by rintro j rfl; exact h.dsp))
 have z8 := k8.size
 clear e8
 (refine AtR_nil (At_seq (At_region ?_)); refine s_mv ?_; refine s_nc ?_; refine s_fa ?_; refine s_ld ?_; refine s_ln ?_; refine s_as ?_; refine s_as ?_; refine AtR_nil ?_)
 refine At_ret2 Tryd.func173 rfl (by conv => lhs; whnf) (by conv => lhs; whnf) ?_
 refine ⟨rfl, fun j => D j ∨ blkOf a4 j ∨ blkOf a7 j, ⟨⟨a4, c4, a7, c7, ?_, ?_, ?_, fun j hj => .inr (.inl hj), fun j hj => .inr (.inr hj)⟩, ?_, .inl h.dsp, ?_, ?_, ?_⟩, ?_, K8⟩
 ·rw [show (st.save l).b.length = st.b.length + 1 by simp [St.save]]; exact B8
 ·rw [show (st.save l).b.length = st.b.length + 1 by simp [St.save], show (st.save l).b.map strV = st.b.map strV ++ [strV l] by simp [St.save]]; exact hOb8
 ·rw [show (st.save l).b.length = st.b.length + 1 by simp [St.save], show (st.save l).is.map Value.bool = st.is.map Value.bool ++ [.bool true] by simp [St.save]]; exact hOi8
 ·simp [St.save, hlen]
 ·rintro j (hj | hj | hj)
  ·exact Nat.lt_of_lt_of_le (h.dlt j hj) K8.size
  ·exact hOb8.lt j hj
  ·exact hOi8.lt j hj
 ·refine ⟨?_, hroom⟩
  rw [show (st.save l).b.length = st.b.length + 1 by simp [St.save]]; omega
 ·intro x hx
  rcases List.mem_append.1 (show x ∈ st.b ++ [l] from hx) with hx | hx
  ·exact h.all x hx
  ·rw [List.mem_singleton] at hx; rw [hx]; exact hl
 ·rintro j (hj | hj | hj)
  ·exact .inl hj
  ·rcases ha4 j hj with h1 | h1
   ·exact .inl (hDb j h1)
   ·right; omega
  ·rcases ha7 j hj with h1 | h1
   ·exact .inl (hDi j h1)
   ·right; omega
end Go.Proofs.YtfngacepjcdlnaaDoor
namespace Go.Mt
open Go Go.Kx Go.Proofs.YtfngacepjcdlnaaDoor
structure GroveAt (w : World) (g sp bo : Nat) (key name : List UInt8) (D : Nat → Prop) : Prop where
 row : ∃ ak ck an cn, Blk w g 171 (0, 0) [.iface 47 (.pointer (some ⟨sp, 0, none⟩)), .pointer (some ⟨bo, 0, none⟩), .slice ak key.length ck, .slice an name.length cn] ∧ SlE w .u8 ak key.length ck (bs8 key) D ∧ (ak = none → key.length = 0) ∧ SlE w .u8 an name.length cn (bs8 name) D
 ob : Blk w bo 129 (0, 0) z129
 con : ∃ fz, Blk w 1 243 fz (ints .u64 (ws kSha))
 dg : D g
 dbo : D bo
 d1 : D 1
 few : key.length ≤ 1000 ∧ name.length ≤ 256
theorem GroveAt.kp {S : Nat → Prop} {w w' : World} {g sp bo : Nat} {key name : List UInt8} {D : Nat → Prop} (h : GroveAt w g sp bo key name D) (k : Kp S w w') (hS : ∀ j, D j → ¬ S j) : GroveAt w' g sp bo key name D := by
 obtain ⟨ak, ck, an, cn, h1, h2, h3, h4⟩ := h.row
 obtain ⟨fz, hc⟩ := h.con
 exact ⟨⟨ak, ck, an, cn, h1.kp k (hS _ h.dg), h2.kp k hS, h3, h4.kp k hS⟩, h.ob.kp k (hS _ h.dbo), ⟨fz, hc.kp k (hS _ h.d1)⟩, h.dg, h.dbo, h.d1, h.few⟩
theorem GroveAt.kpn {w w' : World} {g sp bo : Nat} {key name : List UInt8} {D : Nat → Prop} (h : GroveAt w g sp bo key name D) (k : Kp No w w') : GroveAt w' g sp bo key name D := h.kp k fun _ _ h => h
def macB (key name : List UInt8) (lv fst : Nat) (b : List UInt8) : List UInt8 := (hmac key (layN name.length 2 ++ name ++ layN lv 1 ++ layN fst 8 ++ b)).take 32
theorem macB_length (key name : List UInt8) (lv fst : Nat) (b : List UInt8) : (macB key name lv fst b).length = 32 := by simp [macB, hmac_length]
end Go.Mt
namespace Go.Proofs.YtfngacepjcdlnaaDoor
open Go Go.Kx Go.Kr Go.Mt
theorem z129_eqM : z129 = .pointer none :: [.int .i64 0, .map none, .bool false] := rfl
set_option maxRecDepth 100000 in
set_option maxHeartbeats 4000000 in
theorem tag_calls (bo : Nat) (kx : List UInt8) (ps : List Pc) (ak : Option Addr) (lenk capk : Nat) (ab : Option Addr) (lenb capb : Nat) (w : World) {fz : Nat × Nat} {D : Nat → Prop} (hO : Blk w bo 129 (0, 0) z129)
  (hk : SlE w .u8 ak lenk capk (bs8 kx) D) (hnk : ak = none → lenk = 0) (hbk : lenk ≤ 17592186044416)
  (hp : SlP w ab lenb capb ps (fun b => b < w.heap.size)) (hbp : (flat ps).length ≤ 17592186044000) (hlb : lenb ≤ 1000000) (hG : Blk w 1 243 fz (ints .u64 (ws kSha))) :
  Calls Tryd.prog 122 #[.pointer (some ⟨bo, 0, none⟩), .slice ak lenk capk, .slice ab lenb capb] w fun e w' => e = .returned (.agg (ints .u8 (bs8 ((hmac kx (flat ps)).take 32))).toArray) ∧ Kp No w w' := by
 refine calls_at (n := 26) Tryd.func122 rfl rfl (by simp) ?_
 have hml := hmac_length kx (flat ps)
 (refine At_seq (At_region ?_))
 refine AtR_go rfl (AtG_alloc fun b0 w0 hb0 e0 => ?_)
 have B0 : Blk w0 b0 36 (0, 0) z36 := e0.blk
 have K0 : Kp No w w0 := e0.kp (.inr (by omega))
 have O0 := hO.kp K0 id
 have z0 := K0.size
 clear e0
 (refine AtR_nil (At_seq (At_seq (At_region ?_))); refine s_mv ?_; refine s_nc ?_; refine s_fa ?_; refine s_ld ?_; refine s_neqn ?_; refine AtR_nil ?_; refine At_cond_f rfl ?_; refine At_skip (At_seq (At_region ?_)); refine s_mv ?_; refine s_mv ?_; refine s_mv ?_)
 have hob := O0
 rw [z129_eqM] at hob
 have hp0 : SlP w0 ab lenb capb ps (fun b => b < w0.heap.size) := by
  have h := hp.kpn K0
  refine ⟨h.len_eq, h.le, h.max, h.mem.imp id ?_, fun p hpm => (h.inner p hpm).mono fun b hb _ => hb⟩
  rintro ⟨b, off, rfl, h1, _, h2⟩
  exact ⟨b, off, rfl, h1, h1, h2⟩
 refine s_call x_call (sealP_calls sumOk bo kx ps ak lenk capk ab lenb capb _ hob (hk.kpn K0) hnk hbk hp0 hbp hlb (hG.kp K0 id)) ?_
 rintro _ w1 ⟨rfl, k1⟩
 refine ⟨_, rfl, ?_⟩
 refine AtR_go rfl (AtG_alloc fun b2 w2 hb2 e2 => ?_)
 refine AtR_go rfl (G_skip (r_store_all (s := 64) rfl rfl e2.blk (by simp [hml]) rfl (ints_one _ _)) fun w3 e3 => ?_)
 have B3 : Blk w3 b2 181 (0, 0) (ints .u8 (bs8 (hmac kx (flat ps)))) := e3.blk
 have k3 : Kp No w1 w3 := (e2.kp (S := No) (.inr (by omega))).trans' (e3.kp (S := fun j => j = b2) (.inl rfl)) (by rintro j rfl; right; omega)
 clear e2 e3
 (refine AtR_nil (At_seq ?_); refine At_region ?_)
 refine s_val (x_slice_arr_h (j := 32) rfl rfl (by omega)) ?_
 refine s_val (x_arrayAt rfl (by omega)) ?_
 have hs3 : Seg w3 b2 0 (ints .u8 (bs8 ((hmac kx (flat ps)).take 32))) := by
  have : Seg w3 b2 0 (ints .u8 (bs8 (hmac kx (flat ps)))) := fun j hj => by rw [Nat.zero_add, B3.cell]
  rw [← bs8_take]; exact seg_take this 32
 refine s_val (x_load_segN rfl hs3 (by simp [hml])) ?_
 have K3 := k1.trans k3
 refine AtR_go rfl (G_skip (r_store_all (s := 32) rfl rfl (B0.kp K3 id) (by simp [hml]) rfl (ints_one _ _)) fun w4 e4 => ?_)
 (refine AtR_nil ?_)
 refine At_ret_cell Tryd.func122 rfl rfl e4.blk (by simp [hml]) ⟨rfl, ?_⟩
 exact (K0.trans K3).trans' (e4.kp (S := fun j => j = b0) (.inl rfl)) (by rintro j rfl; right; omega)
set_option maxRecDepth 100000 in
set_option maxHeartbeats 8000000 in
theorem mac_calls (g sp bo : Nat) (key name : List UInt8) (lv fst : Nat) (l : List UInt8) (a : Option Addr) (len cap : Nat) (w : World) {D Db : Nat → Prop} (h : GroveAt w g sp bo key name D) (hs : SlE w .u8 a len cap (bs8 l) Db) (hl : l.length ≤ 100000) (hlv : lv ≤ 5) (hf : fst ≤ 1000000) :
  Calls Tryd.prog 110 #[.pointer (some ⟨g, 0, none⟩), .agg (spC lv fst).toArray, .slice a len cap] w fun e w' => e = .returned (.agg (ints .u8 (bs8 (macB key name lv fst l))).toArray) ∧ Kp No w w' := by
 have hll := hs.len_eq
 simp only [bs8_length] at hll
 subst hll
 obtain ⟨ak, ck, an, cn, hR, hk, hkn, hnm⟩ := h.row
 have hfew := h.few
 refine calls_at (n := 34) Tryd.func110 rfl rfl (by simp) ?_
 (refine At_seq (At_region ?_))
 refine AtR_go rfl (AtG_box rfl fun b1 w1 hb1 e1 => ?_)
 have B1 : Blk w1 b1 153 (0, 0) [.int .i64 (lv : Int), .int .i64 (fst : Int)] := e1.blk
 have k1 : Kp No w w1 := e1.kp (.inr (by omega))
 clear e1
 refine AtR_go rfl (AtG_alloc fun b6 w2 hb6 e2 => ?_)
 have B6 : Blk w2 b6 36 (0, 0) z36 := e2.blk
 have k2 : Kp No w1 w2 := e2.kp (.inr (by omega))
 have z1 := k1.size
 have hlt1 := B1.lt
 have hrl := hR.lt
 clear e2
 (refine AtR_nil (At_seq ?_))
 have kd := Kp.drew (S := No) (w := w2)
 have K := (k1.trans k2).trans kd
 let S : World → Prop := fun w' => Blk w' g 171 (0, 0) [.iface 47 (.pointer (some ⟨sp, 0, none⟩)), .pointer (some ⟨bo, 0, none⟩), .slice ak key.length ck, .slice an name.length cn] ∧ Blk w' b1 153 (0, 0) [.int .i64 (lv : Int), .int .i64 (fst : Int)]
 have hSk : ∀ {w w'}, S w → Kp No w w' → S w' := fun h k => ⟨h.1.kp k fun h => h, h.2.kp k fun h => h⟩
 have hS : S w2.drew := ⟨hR.kp K fun h => h, (B1.kp k2 fun h => h).kp kd fun h => h⟩
 refine At_draw S rfl ?_
 (apply AtH_take 0 rfl (by decide +kernel) (by exact rfl); (focus (intro wx hx; skip; exact x_move (by conv => lhs; whnf))); (focus (exact hS)))
 (apply AtH_take 1 rfl (by decide +kernel) (by exact rfl); (focus (intro wx hx; skip; exact x_nilCheck rfl)); (focus (exact hS)))
 (apply AtH_take 2 rfl (by decide +kernel) (by exact rfl); (focus (intro wx hx; skip; exact x_fieldAddrN rfl (by first | exact Nat.zero_add _ | exact Nat.add_zero _ | (simp only [Nat.reduceAdd] <;> rfl) | exact rfl))); (focus (exact hS)))
 (apply AtH_take 4 rfl (by decide +kernel) (by exact rfl); (focus (intro wx hx; skip; exact x_move (by conv => lhs; whnf))); (focus (exact hS)))
 (apply AtH_take 5 rfl (by decide +kernel) (by exact rfl); (focus (intro wx hx; skip; exact x_nilCheck rfl)); (focus (exact hS)))
 (apply AtH_take 6 rfl (by decide +kernel) (by exact rfl); (focus (intro wx hx; skip; exact x_fieldAddrN rfl (by first | exact Nat.zero_add _ | exact Nat.add_zero _ | (simp only [Nat.reduceAdd] <;> rfl) | exact rfl))); (focus (exact hS)))
 (apply AtH_take 8 rfl (by decide +kernel) (by exact rfl); (focus (intro wx hx; skip; exact x_move (by conv => lhs; whnf))); (focus (exact hS)))
 (apply AtH_take 9 rfl (by decide +kernel) (by exact rfl); (focus (intro wx hx; skip; exact x_nilCheck rfl)); (focus (exact hS)))
 (apply AtH_take 10 rfl (by decide +kernel) (by exact rfl); (focus (intro wx hx; skip; exact x_fieldAddrN rfl (by first | exact Nat.zero_add _ | exact Nat.add_zero _ | (simp only [Nat.reduceAdd] <;> rfl) | exact rfl))); (focus (exact hS)))
 (apply AtH_take 14 rfl (by decide +kernel) (by exact rfl); (focus (intro wx hx; skip; exact x_move (by conv => lhs; whnf))); (focus (exact hS)))
 (apply AtH_take 15 rfl (by decide +kernel) (by exact rfl); (focus (intro wx hx; skip; exact x_nilCheck rfl)); (focus (exact hS)))
 (apply AtH_take 16 rfl (by decide +kernel) (by exact rfl); (focus (intro wx hx; skip; exact x_fieldAddrN rfl (by first | exact Nat.zero_add _ | exact Nat.add_zero _ | (simp only [Nat.reduceAdd] <;> rfl) | exact rfl))); (focus (exact hS)))
 (apply AtH_take 18 rfl (by decide +kernel) (by exact rfl); (focus (intro wx hx; skip; exact x_fieldAddrN rfl (by first | exact Nat.zero_add _ | exact Nat.add_zero _ | (simp only [Nat.reduceAdd] <;> rfl) | exact rfl))); (focus (exact hS)))
 (apply AtH_take 21 rfl (by decide +kernel) (by exact rfl); (focus (intro wx hx; skip; exact x_fieldAddrN rfl (by first | exact Nat.zero_add _ | exact Nat.add_zero _ | (simp only [Nat.reduceAdd] <;> rfl) | exact rfl))); (focus (exact hS)))
 (apply AtH_take 24 rfl (by decide +kernel) (by exact rfl); (focus (intro wx hx; skip; exact x_move (by conv => lhs; whnf))); (focus (exact hS)))
 refine AtH_take 3 rfl (by decide +kernel) (by exact rfl) (fun wx hx => x_load1 rfl hx.1 rfl) hS ?_
 refine AtH_take 7 rfl (by decide +kernel) (by exact rfl) (fun wx hx => x_load1 rfl hx.1 rfl) hS ?_
 refine AtH_take 11 rfl (by decide +kernel) (by exact rfl) (fun wx hx => x_load1 rfl hx.1 rfl) hS ?_
 refine AtH_take 17 rfl (by decide +kernel) (by exact rfl) (fun wx hx => x_load1 rfl hx.1 rfl) hS ?_
 refine AtH_take 19 rfl (by decide +kernel) (by exact rfl) (fun wx hx => x_load1 rfl hx.2 rfl) hS ?_
 refine AtH_take 22 rfl (by decide +kernel) (by exact rfl) (fun wx hx => x_load1 rfl hx.2 rfl) hS ?_
 (apply AtH_take 12 rfl (by decide +kernel) (by exact rfl); (focus (intro wx hx; skip; exact x_len_slice rfl)); (focus (exact hS)))
 refine AtH_call 13 rfl (by decide +kernel) (by exact rfl) x_call  (lay_calls name.length 2 _ (by omega) (by omega)) ?_
 rintro _ w3 ⟨a3, c3, rfl, ho3, _, k3⟩
 have hS3 := hSk hS k3
 refine ⟨_, rfl, hS3, ?_⟩
 refine AtH_call 20 rfl (by decide +kernel) (by exact rfl) x_call  (lay_calls lv 1 _ (by omega) (by omega)) ?_
 rintro _ w4 ⟨a4, c4, rfl, ho4, _, k4⟩
 have hS4 := hSk hS3 k4
 refine ⟨_, rfl, hS4, ?_⟩
 refine AtH_call 23 rfl (by decide +kernel) (by exact rfl) x_call  (lay_calls fst 8 _ (by omega) (by omega)) ?_
 rintro _ w5 ⟨a5, c5, rfl, ho5, _, k5⟩
 have hS5 := hSk hS4 k5
 refine ⟨_, rfl, hS5, ?_⟩
 clear hS hS3 hS4
 have hS := hS5
 refine H_val 25 rfl (by decide +kernel) (by exact rfl) (r_buildSlice1 (os := [_, _, _, _, _]) rfl rfl (by omega) rfl rfl rfl) ?_
 rintro _ w6 ⟨b7, rfl, hb7, e6⟩
 let ps : List Pc := [⟨a3, 2, c3, layN name.length 2⟩, ⟨an, name.length, cn, name⟩, ⟨a4, 1, c4, layN lv 1⟩, ⟨a5, 8, c5, layN fst 8⟩, ⟨a, l.length, cap, l⟩]
 have B7 : Blk w6 b7 31 (0, 0) (List.map pcV ps) := e6.blk
 have k6 : Kp No w5 w6 := e6.kp (.inr (by omega))
 clear e6
 have hS6 := hSk hS k6
 refine ⟨hS6, ?_⟩
 have K6 := ((K.trans k3).trans k4).trans (k5.trans k6)
 have hsl : SlP w6 (some ⟨b7, 0, none⟩) 5 5 ps fun _ => True := by
  refine slp_blk B7 rfl (by simp [maxLen]) (fun p hpm => ?_)
  simp only [ps, List.mem_cons, List.not_mem_nil, or_false] at hpm
  rcases hpm with rfl | rfl | rfl | rfl | rfl
  ·exact ((ho3.kp (k4.trans (k5.trans k6)) fun _ _ h => h).sl.e fun _ _ => trivial)
  ·exact SlE.all (hnm.kpn K6)
  ·exact ((ho4.kp (k5.trans k6) fun _ _ h => h).sl.e fun _ _ => trivial)
  ·exact ((ho5.kp k6 fun _ _ h => h).sl.e fun _ _ => trivial)
  ·exact SlE.all (hs.kpn K6)
 have hfl : flat ps = layN name.length 2 ++ name ++ layN lv 1 ++ layN fst 8 ++ l := by simp [flat, ps]
 obtain ⟨fz, hc⟩ := h.con
 refine AtH_call 26 rfl (by decide +kernel) (by exact rfl) x_call  (tag_calls bo key ps ak _ ck (some ⟨b7, 0, none⟩) 5 5 _ (D := fun _ => True) (h.ob.kp K6 fun h => h) (SlE.all (hk.kpn K6)) hkn (by omega) (SlP.here hsl) (by rw [hfl]; simp [layN_length]; omega) (by omega) (hc.kp K6 fun h => h)) ?_
 rintro _ w7 ⟨rfl, k7⟩
 have hS7 := hSk hS6 k7
 refine ⟨_, rfl, hS7, ?_⟩
 rw [hfl]
 have hml := macB_length key name lv fst l
 have B67 := (B6.kp kd fun h => h).kp (((k3.trans k4).trans (k5.trans k6)).trans k7) fun h => h
 refine H_skip 27 rfl (by decide +kernel) (by exact rfl) (r_store_all (s := 32) (vs := ints .u8 (bs8 (macB key name lv fst l))) rfl rfl B67 (by simp [hml]) rfl (ints_one _ _)) ?_
 intro w8 e8
 have k8 : Kp (fun j => j = b6) w7 w8 := e8.kp (.inl rfl)
 refine ⟨⟨hS7.1.kp k8 (by omega), hS7.2.kp k8 (by omega)⟩, AtH_done (by decide +kernel) ?_⟩
 skip
 refine At_ret_cell Tryd.func110 rfl rfl e8.blk (by simp [hml]) ⟨rfl, ?_⟩
 exact (K6.trans k7).trans' k8 (by rintro j rfl; right; omega)
end Go.Proofs.YtfngacepjcdlnaaDoor
namespace Go.Mt
open Go Go.Kx Go.Proofs.YtfngacepjcdlnaaDoor
def ldP (key name : List UInt8) (st : St) (p : Pr) (lv fst : Nat) : Option (List UInt8) :=
 match st.at p.sec with
 | some b => if macB key name lv fst b = p.mac then some b else none
 | none => none
def chunk (b : List UInt8) (i : Nat) : List UInt8 := (b.drop (36 * i)).take 36
def zeros : List Pr := List.replicate 14 Pr.zero
def ptsP (key name : List UInt8) (st : St) (p : Pr) (lv fst : Nat) : Option (List Pr) :=
 if p.sec = 0 then some zeros else
 match ldP key name st p lv fst with
 | some b => if ((List.range 14).all fun i => unOk (chunk b i)) = true then some ((List.range 14).map fun i => unB (chunk b i)) else none
 | none => none
end Go.Mt
namespace Go.Proofs.YtfngacepjcdlnaaDoor
open Go Go.Kx Go.Kr Go.Mt
set_option maxRecDepth 100000 in
set_option maxHeartbeats 8000000 in
theorem load_calls (st : St) (g sp bo : Nat) (key name : List UInt8) (p : Pr) (lv fst : Nat) (w : World) {D Dg : Nat → Prop} (h : GroveAt w g sp bo key name Dg) (hst : StAt w sp st D) (hp : p.wf) (hlv : lv ≤ 5) (hf : fst ≤ 1000000) :
  Calls Tryd.prog 82 #[.pointer (some ⟨g, 0, none⟩), .agg (prC p).toArray, .agg (spC lv fst).toArray] w fun e w' => Kp No w w' ∧
   match ldP key name st p lv fst with
   | some l => ∃ b cap, e = .returned (.tuple #[.slice (some ⟨b, 0, none⟩) 512 cap, .int .i64 0]) ∧ Sl w' .u8 (some ⟨b, 0, none⟩) 512 cap (bs8 l) ∧ w.heap.size ≤ b ∧ l.length = 512
   | none => e = .returned (.tuple #[.slice none 0 0, .int .i64 13]) := by
 obtain ⟨ak, ck, an, cn, hR, hk, hkn, hnm⟩ := h.row
 have hfew := h.few
 have hpm := hp.mac
 refine calls_at (n := 41) Tryd.func82 rfl rfl (by simp) ?_
 (refine At_seq (At_region ?_))
 refine AtR_go rfl (AtG_box rfl fun b4 w1 hb4 e1 => ?_)
 have B4 : Blk w1 b4 38 (0, 0) (.int .i64 (p.sec : Int) :: ints .u8 (bs8 p.mac)) := e1.blk
 have k1 : Kp No w w1 := e1.kp (.inr (by omega))
 clear e1
 refine AtR_go rfl (AtG_box rfl fun b5 w2 hb5 e2 => ?_)
 have B5 : Blk w2 b5 153 (0, 0) (spC lv fst) := e2.blk
 have k2 : Kp No w1 w2 := e2.kp (.inr (by omega))
 have z1 := k1.size
 clear e2
 (refine s_as ?_; refine s_as ?_; refine AtR_nil (At_seq ?_))
 have kd := Kp.drew (S := No) (w := w2)
 have K := (k1.trans k2).trans kd
 let S : World → Prop := fun w' => Blk w' g 171 (0, 0) [.iface 47 (.pointer (some ⟨sp, 0, none⟩)), .pointer (some ⟨bo, 0, none⟩), .slice ak key.length ck, .slice an name.length cn] ∧ Blk w' b4 38 (0, 0) (.int .i64 (p.sec : Int) :: ints .u8 (bs8 p.mac))
 have hSk : ∀ {w w'}, S w → Kp No w w' → S w' := fun h k => ⟨h.1.kp k fun h => h, h.2.kp k fun h => h⟩
 have hS : S w2.drew := ⟨hR.kp K fun h => h, (B4.kp k2 fun h => h).kp kd fun h => h⟩
 refine At_draw S rfl ?_
 (apply AtH_take 0 rfl (by decide +kernel) (by exact rfl); (focus (intro wx hx; skip; exact x_move (by conv => lhs; whnf))); (focus (exact hS)))
 (apply AtH_take 1 rfl (by decide +kernel) (by exact rfl); (focus (intro wx hx; skip; exact x_nilCheck rfl)); (focus (exact hS)))
 (apply AtH_take 2 rfl (by decide +kernel) (by exact rfl); (focus (intro wx hx; skip; exact x_fieldAddrN rfl (by first | exact Nat.zero_add _ | exact Nat.add_zero _ | (simp only [Nat.reduceAdd] <;> rfl) | exact rfl))); (focus (exact hS)))
 (apply AtH_take 4 rfl (by decide +kernel) (by exact rfl); (focus (intro wx hx; skip; exact x_fieldAddrN rfl (by first | exact Nat.zero_add _ | exact Nat.add_zero _ | (simp only [Nat.reduceAdd] <;> rfl) | exact rfl))); (focus (exact hS)))
 refine AtH_take 3 rfl (by decide +kernel) (by exact rfl) (fun wx hx => x_load1 rfl hx.1 rfl) hS ?_
 refine AtH_take 5 rfl (by decide +kernel) (by exact rfl) (fun wx hx => x_load1 rfl hx.2 rfl) hS ?_
 refine AtH_call 6 rfl (by decide +kernel) (by exact rfl) (x_invoke rfl) (sload_calls st p.sec sp _ (hst.kpn K) hp.sec) ?_
 rintro e w3 ⟨k3, hload⟩
 have hS3 := hSk hS k3
 clear hS
 have hS := hS3
 unfold ldP
 cases hat : st.at p.sec with
 | none =>
  rw [hat] at hload
  simp only at hload ⊢
  subst hload
  refine ⟨_, rfl, hS, ?_⟩
  (apply AtH_take 7 rfl (by decide +kernel) (by exact rfl); (focus (intro wx hx; skip; exact x_move (by conv => lhs; whnf))); (focus (exact hS)))
  (apply AtH_take 8 rfl (by decide +kernel) (by exact rfl); (focus (intro wx hx; skip; exact x_extract rfl rfl)); (focus (exact hS)))
  (apply AtH_take 9 rfl (by decide +kernel) (by exact rfl); (focus (intro wx hx; skip; exact x_extract rfl rfl)); (focus (exact hS)))
  (apply AtH_take 10 rfl (by decide +kernel) (by exact rfl); (focus (intro wx hx; skip; exact x_assign (by conv => lhs; whnf))); (focus (exact hS)))
  (apply AtH_take 11 rfl (by decide +kernel) (by exact rfl); (focus (intro wx hx; skip; exact x_assign (by conv => lhs; whnf))); (focus (exact hS)))
  refine AtH_done (by decide +kernel) ?_
  (refine At_seq (At_seq (At_region ?_)); refine s_mv ?_; refine s_eql ?_; refine AtR_nil ?_; refine At_cond_f rfl ?_; refine At_skip (At_seq (At_seq (At_region ?_))); refine s_mv ?_; refine s_neq ?_; refine s_mv ?_; refine s_no rfl rfl rfl rfl ?_; refine s_no rfl rfl rfl rfl ?_; refine s_no rfl rfl rfl rfl ?_; refine s_pt ?_; refine AtR_nil ?_; refine At_cond_t rfl ?_; refine At_seq (At_region ?_); refine s_as ?_; refine s_as ?_; refine AtR_nil ?_)
  refine At_ret2 Tryd.func82 rfl (by conv => lhs; whnf) (by conv => lhs; whnf) ?_
  exact ⟨K.trans k3, rfl⟩
 | some l =>
  rw [hat] at hload
  simp only at hload ⊢
  obtain ⟨b, cap, rfl, hsl, hbw, hl⟩ := hload
  refine ⟨_, rfl, hS, ?_⟩
  (apply AtH_take 7 rfl (by decide +kernel) (by exact rfl); (focus (intro wx hx; skip; exact x_move (by conv => lhs; whnf))); (focus (exact hS)))
  (apply AtH_take 8 rfl (by decide +kernel) (by exact rfl); (focus (intro wx hx; skip; exact x_extract rfl rfl)); (focus (exact hS)))
  (apply AtH_take 9 rfl (by decide +kernel) (by exact rfl); (focus (intro wx hx; skip; exact x_extract rfl rfl)); (focus (exact hS)))
  (apply AtH_take 10 rfl (by decide +kernel) (by exact rfl); (focus (intro wx hx; skip; exact x_assign (by conv => lhs; whnf))); (focus (exact hS)))
  (apply AtH_take 11 rfl (by decide +kernel) (by exact rfl); (focus (intro wx hx; skip; exact x_assign (by conv => lhs; whnf))); (focus (exact hS)))
  refine AtH_done (by decide +kernel) ?_
  have K3 := K.trans k3
  have B53 : Blk w3 b5 153 (0, 0) (spC lv fst) := B5.kp (kd.trans k3) fun h => h
  (refine At_seq (At_seq (At_region ?_)); refine s_mv ?_; refine s_eql ?_; refine AtR_nil ?_; refine At_cond_f rfl ?_; refine At_skip (At_seq (At_seq (At_region ?_))); refine s_mv ?_; refine s_neq ?_; refine s_mv ?_; refine s_yes rfl rfl rfl rfl ?_; refine g_mv ?_; refine s_yes rfl rfl rfl rfl ?_; refine g_ln ?_; refine s_yes rfl rfl rfl rfl ?_; refine g_neq ?_; refine s_pf ?_; refine AtR_nil ?_; refine At_cond_f rfl ?_; refine At_skip (At_seq (At_seq (At_region ?_))); refine s_mv ?_)
  refine s_val (x_load_all rfl B53 rfl) ?_
  (refine s_mv ?_)
  refine s_call x_call (mac_calls g sp bo key name lv fst l _ _ _ _ (h.kpn K3) (hsl.e (D := fun _ => True) fun _ _ => trivial) (by omega) hlv hf) ?_
  rintro _ w4 ⟨rfl, k4⟩
  refine ⟨_, rfl, ?_⟩
  have hml := macB_length key name lv fst l
  refine AtR_go rfl (AtG_alloc fun b10 w5 hb10 e5 => ?_)
  refine AtR_go rfl (G_skip (r_store_all (s := 32) rfl rfl e5.blk (by simp [hml]) rfl (ints_one _ _)) fun w6 e6 => ?_)
  have B10 : Blk w6 b10 36 (0, 0) (ints .u8 (bs8 (macB key name lv fst l))) := e6.blk
  have k6 : Kp No w4 w6 := (e5.kp (S := No) (.inr (by omega))).trans' (e6.kp (S := fun j => j = b10) (.inl rfl)) (by rintro j rfl; right; omega)
  clear e5 e6
  have B4' := hS.2.kp (k4.trans k6) fun h => h
  (refine AtR_nil (At_seq ?_))
  have kd2 := Kp.drew (S := No) (w := w6)
  have B10d := B10.kp kd2 fun h => h
  have B4d := B4'.kp kd2 fun h => h
  refine At_draw (fun _ => True) rfl ?_
  clear hS hS3
  have hS : True := trivial
  (apply AtH_take 1 rfl (by decide +kernel) (by exact rfl); (focus (intro wx hx; skip; exact x_fieldAddrN rfl (by first | exact Nat.zero_add _ | exact Nat.add_zero _ | (simp only [Nat.reduceAdd] <;> rfl) | exact rfl))); (focus (exact hS)))
  refine AtH_take 0 rfl (by decide +kernel) (by exact rfl) (fun wx hx => x_slice_arr rfl) hS ?_
  refine AtH_take 2 rfl (by decide +kernel) (by exact rfl) (fun wx hx => x_slice_arr rfl) hS ?_
  have hs1 : SlE w6.drew .u8 (some ⟨b10, 0, none⟩) 32 32 (bs8 (macB key name lv fst l)) (fun _ => True) := (B10d.sl (m := 32) (by simp [hml]) (by omega)).e fun _ _ => trivial
  have hs2 : SlE w6.drew .u8 (some ⟨b4, 1, none⟩) 32 32 (bs8 p.mac) (fun _ => True) := ⟨by simp [hpm], Nat.le_refl _, by omega, .inr ⟨b4, 1, rfl, B4d.lt, trivial, fun j hj => by rw [B4d.cell, Nat.add_comm 1, List.getElem?_cons_succ]⟩⟩
  refine AtH_call 3 rfl (by decide +kernel) (by exact rfl) x_call  (same8_calls _ _ _ _ _ _ _ _ hs1 hs2) ?_
  rintro _ _ ⟨rfl, rfl⟩
  refine ⟨_, rfl, hS, ?_⟩
  have KE := ((K3.trans k4).trans k6).trans kd2
  by_cases he : macB key name lv fst l = p.mac
  ·rw [decide_eq_true he]
   simp only [if_pos he]
   (apply AtH_take 4 rfl (by decide +kernel) (by exact rfl); (focus (intro wx hx; skip; exact x_not rfl)); (focus (exact hS)))
   refine AtH_done (by decide +kernel) ?_
   (refine At_cond_f rfl ?_; refine At_skip (At_seq (At_region ?_)); refine s_mv ?_; refine s_as ?_; refine s_as ?_; refine AtR_nil ?_)
   refine At_ret2 Tryd.func82 rfl (by conv => lhs; whnf) (by conv => lhs; whnf) ?_
   exact ⟨KE, b, cap, rfl, hsl.kpn ((k4.trans k6).trans kd2), by have := K.size; omega, hl⟩
  ·rw [decide_eq_false he]
   simp only [if_neg he]
   (apply AtH_take 4 rfl (by decide +kernel) (by exact rfl); (focus (intro wx hx; skip; exact x_not rfl)); (focus (exact hS)))
   refine AtH_done (by decide +kernel) ?_
   (refine At_cond_t rfl ?_; refine At_seq (At_region ?_); refine s_as ?_; refine s_as ?_; refine AtR_nil ?_)
   refine At_ret2 Tryd.func82 rfl (by conv => lhs; whnf) (by conv => lhs; whnf) ?_
   exact ⟨KE, rfl⟩
theorem unB_wf {l : List UInt8} (h : l.length = 36) : (unB l).wf := ⟨by simp [unB, h], by
 have := numB_lt (l.take 4) 4 (by simp [h])
 rw [List.take_of_length_le (by rw [List.length_take]; exact Nat.min_le_left _ _)] at this
 show numB (l.take 4) < _
 omega⟩
theorem chunk_length {b : List UInt8} {i : Nat} (h : b.length = 512) (hi : i < 14) : (chunk b i).length = 36 := by simp [chunk, h]; omega
def ptsTo (b : List UInt8) (i : Nat) : List Pr := (List.range 14).map fun j => if j < i then unB (chunk b j) else Pr.zero
theorem ptsTo_zero (b : List UInt8) : ptsTo b 0 = zeros := by simp [ptsTo, zeros, List.map_const']
theorem ptsTo_all (b : List UInt8) : ptsTo b 14 = (List.range 14).map fun i => unB (chunk b i) := by
 apply List.map_congr_left
 intro j hj
 rw [if_pos (List.mem_range.1 hj)]
theorem ptsTo_length (b : List UInt8) (i : Nat) : (ptsTo b i).length = 14 := by simp [ptsTo]
theorem ptsTo_step (b : List UInt8) (i : Nat) (hi : i < 14) : (ptsTo b i).set i (unB (chunk b i)) = ptsTo b (i + 1) := by
 apply List.ext_getElem (by simp [ptsTo])
 intro j h1 h2
 rw [List.getElem_set]
 simp only [ptsTo, List.getElem_map, List.getElem_range]
 by_cases e : i = j
 ·subst e; rw [if_pos rfl, if_pos (by omega)]
 ·rw [if_neg e]
  by_cases e2 : j < i
  ·rw [if_pos e2, if_pos (by omega)]
  ·rw [if_neg e2, if_neg (by omega)]
theorem ptsTo_wf {b : List UInt8} (h : b.length = 512) (i : Nat) : ∀ p ∈ ptsTo b i, p.wf := fun p hp => by
 obtain ⟨j, hj, rfl⟩ := List.mem_map.1 hp
 split
 ·exact unB_wf (chunk_length h (List.mem_range.1 hj))
 ·exact zero_wf
theorem zeros_wf : ∀ p ∈ zeros, p.wf := fun p hp => by rw [List.eq_of_mem_replicate hp]; exact zero_wf
theorem psC_zeros : psC zeros = z157 := by kernel_rfl
theorem psC_len {ps : List Pr} (hw : ∀ p ∈ ps, p.wf) (hl : ps.length = 14) : (psC ps).length = 462 := by rw [psC_length hw, hl]
theorem psC_one (ps : List Pr) : (psC ps).all (·.oneCell') = true := by
 rw [List.all_eq_true]
 intro v hv
 obtain ⟨p, _, hp⟩ := List.mem_flatMap.1 hv
 exact (List.all_eq_true.1 (prC_one p)) v hp
theorem built157 : Tryd.prog.built 157 [] = some z157.toArray := by kernel_rfl
set_option maxRecDepth 100000 in
set_option maxHeartbeats 8000000 in
theorem pointers_calls (st : St) (g sp bo : Nat) (key name : List UInt8) (p : Pr) (lv fst : Nat) (w : World) {D Dg : Nat → Prop} (h : GroveAt w g sp bo key name Dg) (hst : StAt w sp st D) (hp : p.wf) (hlv : lv ≤ 5) (hf : fst ≤ 1000000) :
  Calls Tryd.prog 79 #[.pointer (some ⟨g, 0, none⟩), .agg (prC p).toArray, .agg (spC lv fst).toArray] w fun e w' => Kp No w w' ∧
   match ptsP key name st p lv fst with
   | some ps => e = .returned (.tuple #[.agg (psC ps).toArray, .int .i64 0])
   | none => e = .returned (.tuple #[.agg (psC zeros).toArray, .int .i64 13]) := by
 refine calls_at (n := 51) Tryd.func79 rfl rfl (by simp) ?_
 (refine At_seq (At_region ?_))
 refine AtR_go rfl (AtG_box rfl fun b4 w1 hb4 e1 => ?_)
 have B4 : Blk w1 b4 38 (0, 0) (prC p) := e1.blk
 have k1 : Kp No w w1 := e1.kp (.inr (by omega))
 clear e1
 refine AtR_go rfl (AtG_box rfl fun b5 w2 hb5 e2 => ?_)
 have B5 : Blk w2 b5 153 (0, 0) (spC lv fst) := e2.blk
 have k2 : Kp No w1 w2 := e2.kp (.inr (by omega))
 have z1 := k1.size
 clear e2
 refine AtR_go rfl (AtG_alloc fun b6 w3 hb6 e3 => ?_)
 have B6 : Blk w3 b6 157 (0, 0) z157 := e3.blk
 have k3 : Kp No w2 w3 := e3.kp (.inr (by omega))
 have z2 := k2.size
 clear e3
 (refine s_as ?_; refine AtR_nil (At_seq ?_); refine At_region ?_)
 refine AtR_go rfl (AtG_alloc fun b8 w4 hb8 e4 => ?_)
 have B8 : Blk w4 b8 157 (0, 0) z157 := e4.blk
 have k4 : Kp No w3 w4 := e4.kp (.inr (by omega))
 have z3 := k3.size
 clear e4
 have K := (k1.trans k2).trans (k3.trans k4)
 have B4' := B4.kp (k2.trans (k3.trans k4)) fun h => h
 have B5' := B5.kp (k3.trans k4) fun h => h
 have B6' := B6.kp k4 fun h => h
 have l6 := B6.lt
 have hz : z157.length = 462 := by rw [← psC_zeros]; exact psC_len zeros_wf rfl
 have h68 : b6 ≠ b8 := by omega
 have hb6w : w.heap.size ≤ b6 := by omega
 rw [show prC p = .int .i64 (p.sec : Int) :: ints .u8 (bs8 p.mac) from rfl] at B4'
 clear B4 B5 B6 k1 k2 k3 k4
 unfold ptsP
 (refine AtR_nil (At_seq (At_seq (At_region ?_))); refine s_fa ?_; refine s_ld ?_)
 by_cases h0 : p.sec = 0
 ·simp only [if_pos h0]
  (refine s_eql ?_; refine AtR_nil ?_; refine At_cond_t rfl ?_; refine At_seq (At_region ?_))
  refine s_val (x_load_all rfl B8 hz) ?_
  refine AtR_go rfl (G_skip (r_store_all (s := 462) rfl rfl B6' hz hz (by rw [← psC_zeros]; exact psC_one _)) fun w5 e5 => ?_)
  (refine s_as ?_; refine AtR_nil ?_)
  refine At_ret_cell2 (s := 462) Tryd.func79 rfl rfl e5.blk hz rfl ⟨K.trans' (e5.kp (S := fun j => j = b6) (.inl rfl)) (by rintro j rfl; right; exact hb6w), ?_⟩
  rw [psC_zeros]
  rfl
 simp only [if_neg h0]
 (refine s_eql ?_; refine AtR_nil ?_; refine At_cond_f rfl ?_; refine At_skip (At_seq (At_region ?_)); refine s_mv ?_)
 have hl33 : (prC p).length = 33 := prC_length hp
 refine s_val (x_load_all (cs := prC p) rfl B4' hl33) ?_
 refine s_val (x_load_all rfl B5' rfl) ?_
 refine s_call x_call (load_calls st g sp bo key name p lv fst _ (h.kpn K) (hst.kpn K) hp hlv hf) ?_
 rintro e w5 ⟨k5, hload⟩
 have B6a := B6'.kp k5 fun h => h
 have B8a := B8.kp k5 fun h => h
 have K5 := K.trans k5
 have fin : ∀ {w6 w7 : World} {ps : List Pr}, Kp No w w6 → Eff w6 w7 b6 (.cells (psC ps).toArray 157 (0, 0)) → Kp No w w7 := fun k e => k.trans' (e.kp (S := fun j => j = b6) (.inl rfl)) (by rintro j rfl; right; exact hb6w)
 cases hld : ldP key name st p lv fst with
 | none =>
  rw [hld] at hload
  simp only at hload ⊢
  subst hload
  refine ⟨_, rfl, ?_⟩
  (refine s_mv ?_; refine s_ex ?_; refine s_ex ?_; refine s_as ?_; refine s_as ?_; refine AtR_nil (At_seq (At_seq (At_region ?_))); refine s_mv ?_; refine s_neq ?_; refine AtR_nil ?_; refine At_cond_t rfl ?_; refine At_seq (At_region ?_))
  refine s_val (x_load_all rfl B8a hz) ?_
  (refine s_mv ?_)
  refine AtR_go rfl (G_skip (r_store_all (s := 462) (vs := psC zeros) (by first | rfl | exact rfl) (by rw [psC_zeros]; rfl) B6a (by rw [psC_zeros]; exact hz) hz (psC_one _)) fun w6 e6 => ?_)
  (refine s_as ?_; refine AtR_nil ?_)
  refine At_ret_cell2 (s := 462) Tryd.func79 rfl rfl e6.blk (by rw [psC_zeros]; exact hz) rfl ⟨fin K5 e6, rfl⟩
 | some l =>
  rw [hld] at hload
  simp only at hload ⊢
  obtain ⟨b, cap, rfl, hsl, hbw, hl⟩ := hload
  refine ⟨_, rfl, ?_⟩
  have hcap := hsl.le
  have hmx := hsl.max
  have hb68 : b ≠ b6 ∧ b ≠ b8 := by
   have := B6'.lt
   have := B8.lt
   omega
  have hseg0 : Seg w5 b 0 (ints .u8 (bs8 l)) := by
   rcases hsl.mem with h0 | ⟨b', off, e, _, hs⟩
   ·omega
   ·cases e; exact hs
  have hbl : b < w5.heap.size := hsl.lt _ rfl
  (refine s_mv ?_; refine s_ex ?_; refine s_ex ?_; refine s_as ?_; refine s_as ?_; refine AtR_nil (At_seq (At_seq (At_region ?_))); refine s_mv ?_; refine s_neq ?_; refine AtR_nil ?_; refine At_cond_f rfl ?_; refine At_skip (At_seq (At_seq (At_region ?_))); refine s_mv ?_; refine AtR_nil (At_block ?_))
  refine At_while (fun i : Nat => [(6, .pointer (some ⟨b6, 0, none⟩)), (8, .pointer (some ⟨b8, 0, none⟩)), (9, .slice (some ⟨b, 0, none⟩) 512 cap), (29, .int .i64 (i : Int))])
   (fun i w' => i ≤ 14 ∧ (∀ j, j < i → unOk (chunk l j) = true) ∧ Blk w' b8 157 (0, 0) (psC (ptsTo l i)) ∧ Blk w' b6 157 (0, 0) z157 ∧ Kp (fun j => j = b8) w5 w') (fun i => 14 - i) 0 ⟨rfl, rfl, rfl, rfl, trivial⟩
   ⟨by omega, fun j hj => by omega, by rw [ptsTo_zero, psC_zeros]; exact B8a, B6a, Kp.refl _ _⟩ ?_
  have hb8w5 : w.heap.size ≤ b8 := by omega
  clear B8a B6a
  rintro i w6 junk ⟨hi, hok, B8i, B6i, K6⟩ again
  by_cases hlt : i < 14
  ·have hchl := chunk_length hl hlt
   have hseg6 : Seg w6 b (36 * i) (ints .u8 (bs8 (chunk l i))) := by
    have h1 := hseg0.kp K6 hb68.2 hbl
    have h2 := seg_take (seg_drop h1 (36 * i)) 36
    rw [Nat.zero_add, bs8_drop, bs8_take] at h2
    exact h2
   have hbl6 : b < w6.heap.size := Nat.lt_of_lt_of_le hbl K6.size
   (refine At_seq (At_region ?_); refine s_lss ?_; refine AtR_nil (At_seq ?_); refine At_cond_t rfl ?_; refine At_skip (At_seq (At_block (At_seq (At_region ?_)))); refine s_mv ?_; refine s_as ?_; refine AtR_nil (At_seq (At_region ?_)); refine s_mv ?_; refine s_mv ?_; refine s_ml ?_; refine s_mv ?_; refine s_ml ?_; refine s_ad ?_)
   refine s_val (x_slice_lh rfl rfl rfl (by omega) (by omega) (by omega) (by omega)) ?_
   rw [show 0 + (36 * (i : Int)).toNat * 1 = 36 * i by omega, show (36 * (i : Int) + 36).toNat - (36 * (i : Int)).toNat = 36 by omega, show cap - (36 * (i : Int)).toNat = cap - 36 * i by omega]
   have hsc : SlE w6 .u8 (some ⟨b, 36 * i, none⟩) 36 (cap - 36 * i) (bs8 (chunk l i)) (fun _ => True) := ⟨by simp [hchl], by omega, by omega, .inr ⟨b, 36 * i, rfl, hbl6, trivial, hseg6⟩⟩
   refine s_call x_call (unpack_calls (chunk l i) _ _ _ _ hsc) ?_
   rintro _ w7 ⟨rfl, k7⟩
   refine ⟨_, rfl, ?_⟩
   have z67 := k7.size
   have hu33 : (prC (unP (chunk l i))).length = 33 := by
    unfold unP
    split
    ·exact prC_length (unB_wf hchl)
    ·rfl
   (refine s_mv ?_; refine s_ex ?_; refine s_ex ?_)
   refine AtR_go rfl (AtG_alloc fun b12 w8 hb12 e8 => ?_)
   refine AtR_go rfl (G_skip (r_store_all (s := 33) rfl rfl e8.blk hu33 rfl (prC_one _)) fun w9 e9 => ?_)
   have B12 : Blk w9 b12 38 (0, 0) (prC (unP (chunk l i))) := e9.blk
   have k9 : Kp No w7 w9 := (e8.kp (S := No) (.inr (by omega))).trans' (e9.kp (S := fun j => j = b12) (.inl rfl)) (by rintro j rfl; right; omega)
   clear e8 e9
   have hb812 : b8 ≠ b12 := by have := B8i.lt; omega
   have B8j := B8i.kp (k7.trans k9) fun h => h
   have B6j := B6i.kp (k7.trans k9) fun h => h
   have K9 := K6.trans ((k7.trans k9).mono fun _ h => h.elim)
   (refine s_as ?_; refine AtR_nil (At_seq (At_seq (At_region ?_))); refine s_mv ?_; refine s_nt ?_; refine AtR_nil ?_)
   rcases Bool.eq_false_or_eq_true (unOk (chunk l i)) with hu | hu
   ·rw [hu]
    have hunp : unP (chunk l i) = unB (chunk l i) := by unfold unP; rw [if_pos hu]
    rw [hunp] at B12 hu33
    (refine At_cond_f rfl ?_; refine At_skip (At_region ?_); refine s_mv ?_)
    refine s_val (x_load_all rfl B12 hu33) ?_
    refine s_val (x_indexAddr_arr rfl rfl (by omega) (by omega)) ?_
    rw [Int.toNat_natCast, Nat.zero_add]
    have hwf := ptsTo_wf hl i
    have hlay := psC_lay (ps := ptsTo l i) (i := i) (q := unB (chunk l i)) (by rw [ptsTo_length]; exact hlt) hwf (unB_wf hchl)
    rw [ptsTo_step l i hlt] at hlay
    refine AtR_go rfl (G_skip (r_storeN (cs := psC (ptsTo l i)) (vs := prC (unB (chunk l i))) rfl rfl B8j hu33 (by rw [psC_len hwf (ptsTo_length l i)]; omega) (prC_one _)) fun w10 e10 => ?_)
    rw [hlay] at e10
    have k10 : Kp (fun j => j = b8) w9 w10 := e10.kp (.inl rfl)
    (refine AtR_nil (At_inBlock (At_region ?_)); refine s_ad ?_; refine s_mv ?_; refine AtR_nil ?_)
    exact again (i + 1) _ _ ⟨rfl, rfl, rfl, rfl, trivial⟩ ⟨hlt, fun j hj => by
     by_cases e : j = i
     ·subst e; exact hu
     ·exact hok j (by omega), e10.blk, B6j.kp k10 h68, K9.trans k10⟩ (by omega)
   ·rw [hu]
    have hall : ¬ ((List.range 14).all fun i => unOk (chunk l i)) = true := fun ha => by
     have := List.all_eq_true.1 ha i (List.mem_range.2 hlt)
     rw [hu] at this; cases this
    simp only [if_neg hall]
    (refine At_cond_t rfl ?_; refine At_seq (At_region ?_))
    refine s_val (x_build rfl built157) ?_
    skip
    refine AtR_go rfl (G_skip (r_store_all (s := 462) (vs := psC zeros) rfl (by rw [psC_zeros]; rfl) B6j (by rw [psC_zeros]; exact hz) hz (psC_one _)) fun w10 e10 => ?_)
    (refine s_as ?_; refine AtR_nil ?_)
    refine At_ret_cell2 (s := 462) Tryd.func79 rfl rfl e10.blk (by rw [psC_zeros]; exact hz) rfl ⟨fin (K5.trans' K9 (by rintro j rfl; right; exact hb8w5)) e10, rfl⟩
  have hie : i = 14 := by omega
  clear again
  subst hie
  have hall : ((List.range 14).all fun i => unOk (chunk l i)) = true := List.all_eq_true.2 fun j hj => hok j (List.mem_range.1 hj)
  simp only [if_pos hall]
  have h462 := psC_len (ptsTo_wf hl 14) (ptsTo_length l 14)
  (refine At_seq (At_region ?_); refine s_lss ?_; refine AtR_nil (At_seq ?_); refine At_cond_f rfl ?_; refine At_exit rfl ?_; refine At_seq (At_region ?_))
  refine s_val (x_load_all rfl B8i h462) ?_
  refine AtR_go rfl (G_skip (r_store_all (s := 462) rfl rfl B6i h462 hz (psC_one _)) fun w10 e10 => ?_)
  (refine s_as ?_; refine AtR_nil ?_)
  refine At_ret_cell2 (s := 462) Tryd.func79 rfl rfl e10.blk h462 rfl ⟨fin (K5.trans' K6 (by rintro j rfl; right; exact hb8w5)) e10, ?_⟩
  rw [ptsTo_all]
  rfl
end Go.Proofs.YtfngacepjcdlnaaDoor
