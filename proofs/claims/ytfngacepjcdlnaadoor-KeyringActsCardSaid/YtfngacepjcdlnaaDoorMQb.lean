/- Strings of octets compared. Own work; nothing of a program is named here. | The layer 'policy' over a ring: a record's own keys. | The law PolicyNonces, as a walk. | The law PolicyNonces, of what comes in. -/
import Derived.Test.YtfngacepjcdlnaaDoorMHc
import Derived.Test.YtfngacepjcdlnaaDoorMKb
import Derived.Laws.Strings
import Derived.Test.YtfngacepjcdlnaaDoorMGb
import Derived.Test.YtfngacepjcdlnaaDoorMQa
set_option linter.unusedVariables false
namespace Go.Kx
open Go
section
variable {P : Program} {f : Fm} {n : Nat} {R : Ending → World → Prop} {k : List Item} {env : Env} {w : World} {d : Tmp} {ty : TypeId} {pos : String} {aft : Array Edge} {pre rest : List Oper} {dst : Option Tmp} {g : Option (Nat × Bool)}
theorem str_toList (l : List UInt8) : (⟨l.toArray⟩ : ByteArray).toList = l := by rw [ByteArray.toList_eq]
theorem list_beq (l m : List UInt8) : (l == m) = decide (l = m) := by
  by_cases h : l = m
  · subst h; simp
  · simp [h]
theorem x_eql_str {x y : Operand} {T T' : TypeId} {l m : List UInt8} [hT : TU P T .string] (hx : ev n env x = strV l) (hy : ev n env y = strV m) :
    Run P n env ⟨dst, .binOp .eql T x y T', ty, pos, aft, g⟩ w (.ok (.value (.bool (decide (l = m)))) w) := by
  unfold Run
  simp only [execOp, hx, hy, strV]
  have e : (Op.stringOp .eql ⟨l.toArray⟩ ⟨m.toArray⟩).run P w = .ok (.bool (decide (l = m))) w := by
    unfold Op.stringOp
    simp only [str_toList, list_beq]
    rfl
  simp [eqGuard_at_string, binOp, e]
theorem x_neq_str {x y : Operand} {T T' : TypeId} {l m : List UInt8} [hT : TU P T .string] (hx : ev n env x = strV l) (hy : ev n env y = strV m) :
    Run P n env ⟨dst, .binOp .neq T x y T', ty, pos, aft, g⟩ w (.ok (.value (.bool (decide (l ≠ m)))) w) := by
  unfold Run
  simp only [execOp, hx, hy, strV]
  have e : (Op.stringOp .neq ⟨l.toArray⟩ ⟨m.toArray⟩).run P w = .ok (.bool (!decide (l = m))) w := by
    unfold Op.stringOp
    simp only [str_toList, list_beq]
    rfl
  simp [eqGuard_at_string, binOp, e]
theorem x_lss_str {x y : Operand} {T T' : TypeId} {l m : List UInt8} [hT : TU P T .string] (hx : ev n env x = strV l) (hy : ev n env y = strV m) :
    Run P n env ⟨dst, .binOp .lss T x y T', ty, pos, aft, g⟩ w (.ok (.value (.bool (Kr.lt l m))) w) := by
  unfold Run
  simp only [execOp, hx, hy, strV]
  have e : (Op.stringOp .lss ⟨l.toArray⟩ ⟨m.toArray⟩).run P w = .ok (.bool (Kr.lt l m)) w := by
    unfold Op.stringOp
    simp only [str_toList]
    rfl
  simp [eqGuard_at_string, binOp, e]
end
end Go.Kx

namespace Go.Proofs.YtfngacepjcdlnaaDoor
open Go Go.Kx Go.Kr
/-- A record's octets. -/
structure Ino (ps : List Int) (id non : List UInt8) : Prop where
  len : K42.length = ps.length
  key : (ps.drop 22).take 16 = bs8 id
  nonce : (ps.drop 5).take 16 = bs8 non
theorem Ino.id_len {ps : List Int} {id non : List UInt8} (h : Ino ps id non) : id.length = 16 := by
  have h1 : 72 = ps.length := h.len
  have := congrArg List.length h.key
  simp at this; omega
theorem Ino.non_len {ps : List Int} {id non : List UInt8} (h : Ino ps id non) : non.length = 16 := by
  have h1 : 72 = ps.length := h.len
  have := congrArg List.length h.nonce
  simp at this; omega
theorem mkI22 (xs : List Int) (h : xs.length = 16) : mkI K22 xs = ints .u8 xs := mkI_replicate .u8 16 xs h
theorem ino_seg {w : World} {b : Nat} {ps : List Int} {id non : List UInt8} (hB : Blk w b 42 (0, 0) (mkI K42 ps)) (h : Ino ps id non) : Seg w b 5 (ints .u8 (bs8 non)) := fun j hj => by
  have h1 : 72 = ps.length := h.len
  have hj16 : j < 16 := by rw [ints_length, bs8_length, h.non_len] at hj; exact hj
  have hk : K42[5 + j]? = some .u8 := by
    have : (K42.drop 5).take 16 = List.replicate 16 .u8 := by rfl
    have h2 := congrArg (fun l => l[j]?) this
    simp only [List.getElem?_take, List.getElem?_drop, hj16, if_true, List.getElem?_replicate] at h2
    exact h2
  rw [hB.cell, mkI_get hk h.len, ← h.nonce]
  simp [ints, hj16, List.getD, show 5 + j < ps.length by omega]
/-- What derived comes to. -/
def DerP (u : Int) (id non : List UInt8) (L : Ring) (c : UInt8) (n : Nat) (w : World) (e : Ending) (w' : World) : Prop :=
  Kp No w w' ∧ if u = 0 then e = .returned (.tuple #[.slice none 0 0, .int .i64 0]) else if stat id L = 1 then ∃ a' cap', e = .returned (.tuple #[.slice a' n cap', .int .i64 0]) ∧ Own w' 5 1 a' n cap' (ints .u8 (bs8 (derive (ent id L).key c non n))) ∧ (∀ j, blkOf a' j → w.heap.size ≤ j)
    else e = .returned (.tuple #[.slice none 0 0, .int .i64 16])
set_option maxRecDepth 100000 in
set_option maxHeartbeats 1000000 in
theorem derived_calls (xs : List En) (ps : List Int) (id non : List UInt8) (r bo : Nat) (c : UInt8) (n : Nat) (w : World) {D : Nat → Prop} (hR : RingAt w r bo xs D) (hg : Kr.Good (ents xs)) (hI : Ino ps id non) (hn : n ≤ 16320) :
    Calls Tryd.prog 70 #[.pointer (some ⟨r, 0, none⟩), V42 ps, .int .u8 (ub c), .int .i64 (n : Int)] w (DerP (unit ps) id non (ents xs) c n w) := by
  have hil := hI.id_len
  have hnl := hI.non_len
  have hpl := hI.len
  have hl72 : 72 = ps.length := hpl
  refine calls_at (n := 23) Tryd.func70 rfl rfl (by simp) ?_
  (refine At_seq ?_; refine At_region ?_)
  refine AtR_go rfl (AtG_box rfl fun b w1 hb e1 => ?_)
  have B1 : Blk w1 b 42 (0, 0) (mkI K42 ps) := e1.blk
  have K1 : Kp No w w1 := e1.kp (.inr (by omega))
  clear e1
  (refine s_as ?_; refine s_as ?_; refine AtR_nil ?_; refine At_seq ?_; refine At_seq ?_; refine At_region ?_; refine s_ld ?_)
  refine s_call x_call (plain_calls ps _ hpl) ?_
  rintro _ w2 ⟨rfl, k2⟩
  refine ⟨_, rfl, ?_⟩
  have K2 := K1.trans k2
  have B2 := B1.kp k2 fun h => h
  by_cases hu : unit ps = 0
  · rw [decide_eq_true hu]
    (refine AtR_nil ?_; refine At_cond_t rfl ?_; refine At_seq ?_; refine At_region ?_; refine s_as ?_; refine s_as ?_; refine AtR_nil ?_)
    refine At_ret2 Tryd.func70 rfl (by conv => lhs; whnf) (by conv => lhs; whnf) ?_
    exact ⟨K2, by rw [if_pos hu]⟩
  · rw [decide_eq_false hu]
    (refine AtR_nil ?_; refine At_cond_f rfl ?_; refine At_skip ?_; refine At_seq ?_)
    have kd := Kp.drew (S := No) (w := w2)
    have KD := K2.trans kd
    have Bd := B2.kp kd fun h => h
    refine At_draw (fun w' => Blk w' b 42 (0, 0) (mkI K42 ps)) rfl ?_
    have hS : Blk w2.drew b 42 (0, 0) (mkI K42 ps) := Bd
    (apply AtH_take 0 rfl (by decide +kernel) (by exact rfl); (focus (intro wx hx; skip; exact x_move (by conv => lhs; whnf))); (focus (exact hS)))
    (apply AtH_take 1 rfl (by decide +kernel) (by exact rfl); (focus (intro wx hx; skip; exact x_fieldAddrN rfl (by first | exact Nat.zero_add _ | exact Nat.add_zero _ | (simp only [Nat.reduceAdd] <;> rfl) | exact rfl))); (focus (exact hS)))
    (apply AtH_take 2 rfl (by decide +kernel) (by exact rfl); (focus (intro wx hx; skip; exact x_fieldAddrN rfl (by first | exact Nat.zero_add _ | exact Nat.add_zero _ | (simp only [Nat.reduceAdd] <;> rfl) | exact rfl))); (focus (exact hS)))
    (apply AtH_take 4 rfl (by decide +kernel) (by exact rfl); (focus (intro wx hx; skip; exact x_move (by conv => lhs; whnf))); (focus (exact hS)))
    (apply AtH_take 5 rfl (by decide +kernel) (by exact rfl); (focus (intro wx hx; skip; exact x_fieldAddrN rfl (by first | exact Nat.zero_add _ | exact Nat.add_zero _ | (simp only [Nat.reduceAdd] <;> rfl) | exact rfl))); (focus (exact hS)))
    (apply AtH_take 6 rfl (by decide +kernel) (by exact rfl); (focus (intro wx hx; skip; exact x_slice_arr rfl)); (focus (exact hS)))
    (apply AtH_take 7 rfl (by decide +kernel) (by exact rfl); (focus (intro wx hx; skip; exact x_move (by conv => lhs; whnf))); (focus (exact hS)))
    -- ready now: 3 load 22 t14
    refine AtH_take 3 rfl (by decide +kernel) rfl (fun wx hx => x_load_fl rfl hx rfl hpl rfl) hS ?_
    rw [show (ps.drop 22).take K22.length = bs8 id from hI.key, mkI22 _ (by simp [hil])]
    -- ready now: 8 call f34(t12, t15, t16, t18, t19)
    have hseg := ino_seg Bd hI
    have hsl : SlE w2.drew .u8 (some ⟨b, 5, none⟩) 16 16 (bs8 non) (fun _ => True) := ⟨by simp [hnl], Nat.le_refl _, by omega, .inr ⟨b, 5, rfl, Bd.lt, trivial, hseg⟩⟩
    refine AtH_call 8 rfl (by decide +kernel) (by exact rfl) x_call  (ringDerive_calls xs id r bo c non (n : Int) _ _ _ _ (hR.kpn KD) hg.sorted hil hg.keys hsl (by omega)) ?_
    rintro e w3 ⟨k3, hp⟩
    have hn2 : (0 : Int) ≤ (n : Int) ∧ (n : Int) ≤ 16320 := by omega
    rw [if_pos hn2] at hp
    have hS3 := hS.kp k3 fun h => h
    clear hS
    have hS := hS3
    by_cases hst : stat id (ents xs) = 1
    · rw [if_pos hst] at hp
      obtain ⟨a', cap', rfl, ho, hf⟩ := hp
      rw [Int.toNat_natCast] at ho ⊢
      refine ⟨_, rfl, hS, ?_⟩
      (apply AtH_take 9 rfl (by decide +kernel) (by exact rfl); (focus (intro wx hx; skip; exact x_extract rfl rfl)); (focus (exact hS)))
      (apply AtH_take 10 rfl (by decide +kernel) (by exact rfl); (focus (intro wx hx; skip; exact x_extract rfl rfl)); (focus (exact hS)))
      (apply AtH_take 11 rfl (by decide +kernel) (by exact rfl); (focus (intro wx hx; skip; exact x_assign (by conv => lhs; whnf))); (focus (exact hS)))
      (apply AtH_take 12 rfl (by decide +kernel) (by exact rfl); (focus (intro wx hx; skip; exact x_assign (by conv => lhs; whnf))); (focus (exact hS)))
      refine AtH_done (by decide +kernel) ?_
      skip
      refine At_ret2 Tryd.func70 rfl (by conv => lhs; whnf) (by conv => lhs; whnf) ?_
      refine ⟨KD.trans k3, ?_⟩
      rw [if_neg hu, if_pos hst]
      exact ⟨a', cap', rfl, ho, fun j hj => Nat.le_trans KD.size (hf j hj)⟩
    · rw [if_neg hst] at hp
      subst hp
      refine ⟨_, rfl, hS, ?_⟩
      (apply AtH_take 9 rfl (by decide +kernel) (by exact rfl); (focus (intro wx hx; skip; exact x_extract rfl rfl)); (focus (exact hS)))
      (apply AtH_take 10 rfl (by decide +kernel) (by exact rfl); (focus (intro wx hx; skip; exact x_extract rfl rfl)); (focus (exact hS)))
      (apply AtH_take 11 rfl (by decide +kernel) (by exact rfl); (focus (intro wx hx; skip; exact x_assign (by conv => lhs; whnf))); (focus (exact hS)))
      (apply AtH_take 12 rfl (by decide +kernel) (by exact rfl); (focus (intro wx hx; skip; exact x_assign (by conv => lhs; whnf))); (focus (exact hS)))
      refine AtH_done (by decide +kernel) ?_
      skip
      refine At_ret2 Tryd.func70 rfl (by conv => lhs; whnf) (by conv => lhs; whnf) ?_
      refine ⟨KD.trans k3, ?_⟩
      rw [if_neg hu, if_neg hst]
set_option maxRecDepth 100000 in
theorem contents_calls (xs : List En) (ps : List Int) (id non : List UInt8) (r bo : Nat) (w : World) {D : Nat → Prop} (hR : RingAt w r bo xs D) (hg : Kr.Good (ents xs)) (hI : Ino ps id non) :
    Calls Tryd.prog 20 #[.pointer (some ⟨r, 0, none⟩), V42 ps] w (DerP (unit ps) id non (ents xs) 2 64 w) := by
  have hpl := hI.len
  refine calls_at (n := 11) Tryd.func20 rfl rfl (by simp) ?_
  (refine At_seq ?_; refine At_region ?_)
  refine AtR_go rfl (AtG_box rfl fun b w1 hb e1 => ?_)
  have B1 : Blk w1 b 42 (0, 0) (mkI K42 ps) := e1.blk
  have K1 : Kp No w w1 := e1.kp (.inr (by omega))
  clear e1
  (refine s_as ?_; refine s_as ?_; refine AtR_nil ?_; refine At_seq ?_; refine At_region ?_; refine s_mv ?_; refine s_ld ?_)
  refine s_call x_call (derived_calls xs ps id non r bo 2 64 _ (hR.kpn K1) hg hI (by omega)) ?_
  rintro e w2 ⟨k2, hp⟩
  by_cases hu : unit ps = 0
  · rw [if_pos hu] at hp
    subst hp
    refine ⟨_, rfl, ?_⟩
    (refine s_ex ?_; refine s_ex ?_; refine s_as ?_; refine s_as ?_; refine AtR_nil ?_)
    refine At_ret2 Tryd.func20 rfl (by conv => lhs; whnf) (by conv => lhs; whnf) ?_
    exact ⟨K1.trans k2, by rw [if_pos hu]⟩
  rw [if_neg hu] at hp
  by_cases hst : stat id (ents xs) = 1
  · rw [if_pos hst] at hp
    obtain ⟨a', cap', rfl, ho, hf⟩ := hp
    refine ⟨_, rfl, ?_⟩
    (refine s_ex ?_; refine s_ex ?_; refine s_as ?_; refine s_as ?_; refine AtR_nil ?_)
    refine At_ret2 Tryd.func20 rfl (by conv => lhs; whnf) (by conv => lhs; whnf) ?_
    refine ⟨K1.trans k2, ?_⟩
    rw [if_neg hu, if_pos hst]
    exact ⟨a', cap', rfl, ho, fun j hj => Nat.le_trans K1.size (hf j hj)⟩
  · rw [if_neg hst] at hp
    subst hp
    refine ⟨_, rfl, ?_⟩
    (refine s_ex ?_; refine s_ex ?_; refine s_as ?_; refine s_as ?_; refine AtR_nil ?_)
    refine At_ret2 Tryd.func20 rfl (by conv => lhs; whnf) (by conv => lhs; whnf) ?_
    refine ⟨K1.trans k2, ?_⟩
    rw [if_neg hu, if_neg hst]
set_option maxRecDepth 100000 in
theorem names_calls (xs : List En) (ps : List Int) (id non : List UInt8) (r bo : Nat) (w : World) {D : Nat → Prop} (hR : RingAt w r bo xs D) (hg : Kr.Good (ents xs)) (hI : Ino ps id non) :
    Calls Tryd.prog 21 #[.pointer (some ⟨r, 0, none⟩), V42 ps] w (DerP (unit ps) id non (ents xs) 3 32 w) := by
  have hpl := hI.len
  refine calls_at (n := 11) Tryd.func21 rfl rfl (by simp) ?_
  (refine At_seq ?_; refine At_region ?_)
  refine AtR_go rfl (AtG_box rfl fun b w1 hb e1 => ?_)
  have B1 : Blk w1 b 42 (0, 0) (mkI K42 ps) := e1.blk
  have K1 : Kp No w w1 := e1.kp (.inr (by omega))
  clear e1
  (refine s_as ?_; refine s_as ?_; refine AtR_nil ?_; refine At_seq ?_; refine At_region ?_; refine s_mv ?_; refine s_ld ?_)
  refine s_call x_call (derived_calls xs ps id non r bo 3 32 _ (hR.kpn K1) hg hI (by omega)) ?_
  rintro e w2 ⟨k2, hp⟩
  by_cases hu : unit ps = 0
  · rw [if_pos hu] at hp
    subst hp
    refine ⟨_, rfl, ?_⟩
    (refine s_ex ?_; refine s_ex ?_; refine s_as ?_; refine s_as ?_; refine AtR_nil ?_)
    refine At_ret2 Tryd.func21 rfl (by conv => lhs; whnf) (by conv => lhs; whnf) ?_
    exact ⟨K1.trans k2, by rw [if_pos hu]⟩
  rw [if_neg hu] at hp
  by_cases hst : stat id (ents xs) = 1
  · rw [if_pos hst] at hp
    obtain ⟨a', cap', rfl, ho, hf⟩ := hp
    refine ⟨_, rfl, ?_⟩
    (refine s_ex ?_; refine s_ex ?_; refine s_as ?_; refine s_as ?_; refine AtR_nil ?_)
    refine At_ret2 Tryd.func21 rfl (by conv => lhs; whnf) (by conv => lhs; whnf) ?_
    refine ⟨K1.trans k2, ?_⟩
    rw [if_neg hu, if_pos hst]
    exact ⟨a', cap', rfl, ho, fun j hj => Nat.le_trans K1.size (hf j hj)⟩
  · rw [if_neg hst] at hp
    subst hp
    refine ⟨_, rfl, ?_⟩
    (refine s_ex ?_; refine s_ex ?_; refine s_as ?_; refine s_as ?_; refine AtR_nil ?_)
    refine At_ret2 Tryd.func21 rfl (by conv => lhs; whnf) (by conv => lhs; whnf) ?_
    refine ⟨K1.trans k2, ?_⟩
    rw [if_neg hu, if_neg hst]
set_option maxRecDepth 100000 in
theorem locked_calls (xs : List En) (ps : List Int) (id non : List UInt8) (r bo : Nat) (w : World) {D : Nat → Prop} (hR : RingAt w r bo xs D) (hg : Kr.Good (ents xs)) (hI : Ino ps id non) :
    Calls Tryd.prog 51 #[.pointer (some ⟨r, 0, none⟩), V42 ps] w fun e w' => e = .returned (.bool (decide (unit ps ≠ 0 ∧ stat id (ents xs) ≠ 1))) ∧ Kp No w w' := by
  have hpl := hI.len
  refine calls_at (n := 16) Tryd.func51 rfl rfl (by simp) ?_
  (refine At_seq ?_; refine At_region ?_)
  refine AtR_go rfl (AtG_box rfl fun b w1 hb e1 => ?_)
  have B1 : Blk w1 b 42 (0, 0) (mkI K42 ps) := e1.blk
  have K1 : Kp No w w1 := e1.kp (.inr (by omega))
  clear e1
  (refine s_as ?_; refine AtR_nil ?_; refine At_seq ?_; refine At_region ?_; refine s_ld ?_)
  refine s_call x_call (plain_calls ps _ hpl) ?_
  rintro _ w2 ⟨rfl, k2⟩
  refine ⟨_, rfl, ?_⟩
  have K2 := K1.trans k2
  have B2 := B1.kp k2 fun h => h
  by_cases hu : unit ps = 0
  · rw [decide_eq_true hu]
    (refine s_nt ?_; refine s_mv ?_; refine s_no rfl rfl rfl rfl ?_; refine s_no rfl rfl rfl rfl ?_; refine s_no rfl rfl rfl rfl ?_; refine s_no rfl rfl rfl rfl ?_; refine s_no rfl rfl rfl rfl ?_; refine s_no rfl rfl rfl rfl ?_; refine s_pf ?_; refine s_as ?_; refine AtR_nil ?_)
    refine At_ret1 Tryd.func51 rfl (by conv => lhs; whnf) ?_
    exact ⟨by rw [decide_eq_false (fun h => h.1 hu)], K2⟩
  · rw [decide_eq_false hu]
    (refine s_nt ?_; refine s_mv ?_; refine s_yes rfl rfl rfl rfl ?_; refine g_mv ?_; refine s_yes rfl rfl rfl rfl ?_; refine g_fa ?_; refine s_yes rfl rfl rfl rfl ?_; refine g_fa ?_; refine s_yes rfl rfl rfl rfl ?_; refine g_ld ?_)
    rw [show (ps.drop (21 + 1)).take K22.length = bs8 id from hI.key, mkI22 _ (by simp [hI.id_len])]
    refine s_yes rfl rfl rfl rfl (g_call x_call (status_calls xs id r bo _ (hR.kpn K2) hg.sorted hI.id_len) ?_)
    rintro _ w3 ⟨rfl, k3⟩
    refine ⟨_, rfl, ?_⟩
    by_cases hst : stat id (ents xs) = 1
    · (refine s_yes rfl rfl rfl rfl ?_; refine g_neq ?_; refine s_pt ?_; refine s_as ?_; refine AtR_nil ?_)
      refine At_ret1 Tryd.func51 rfl (by conv => lhs; whnf) ?_
      exact ⟨by rw [decide_eq_false (fun h => h.2 hst)], K2.trans k3⟩
    · (refine s_yes rfl rfl rfl rfl ?_; refine g_neq ?_; refine s_pt ?_; refine s_as ?_; refine AtR_nil ?_)
      refine At_ret1 Tryd.func51 rfl (by conv => lhs; whnf) ?_
      exact ⟨by rw [decide_eq_true ⟨hu, hst⟩], K2.trans k3⟩
end Go.Proofs.YtfngacepjcdlnaaDoor

namespace Go.Proofs.YtfngacepjcdlnaaDoor
open Go Go.Kx Go.Kr
/-- A file's record, of a unit, a nonce, a key. -/
def inoX (u : Int) (non id : List UInt8) : List Int := [1, 0, 0, 0, 0] ++ (bs8 non ++ (u :: (bs8 id ++ List.replicate 34 0)))
theorem inoX_ino {u : Int} {non id : List UInt8} (hn : non.length = 16) (hi : id.length = 16) : Ino (inoX u non id) id non := by
  refine ⟨?_, ?_, ?_⟩
  · show 72 = _
    simp [inoX, hn, hi]
  · have e : inoX u non id = ([1, 0, 0, 0, 0] ++ bs8 non ++ [u]) ++ (bs8 id ++ List.replicate 34 0) := by simp [inoX]
    rw [e, List.drop_left' (by simp [hn]), List.take_left' (by simp [hi])]
  · unfold inoX
    rw [List.drop_left' (by rfl), List.take_left' (by simp [hn])]
theorem inoX_unit {u : Int} {non id : List UInt8} (hn : non.length = 16) : unit (inoX u non id) = u := by
  show (inoX u non id).getD 21 0 = u
  have e : inoX u non id = ([1, 0, 0, 0, 0] ++ bs8 non) ++ (u :: (bs8 id ++ List.replicate 34 0)) := by simp [inoX]
  rw [e, List.getD, List.getElem?_append_right (by simp [hn])]
  simp [hn]
theorem inoX_nonce {u : Int} {non non' id : List UInt8} (hn : non.length = 16) (hn' : non'.length = 16) : layI (inoX u non id) 5 (bs8 non') = inoX u non' id := by
  unfold layI
  have h1 : (inoX u non id).take 5 = [1, 0, 0, 0, 0] := rfl
  have h2 : (inoX u non id).drop (5 + (bs8 non').length) = u :: (bs8 id ++ List.replicate 34 0) := by
    have e : inoX u non id = ([1, 0, 0, 0, 0] ++ bs8 non) ++ (u :: (bs8 id ++ List.replicate 34 0)) := by simp [inoX]
    rw [e, List.drop_left' (by simp [hn, hn'])]
  rw [h1, h2]
  simp [inoX]
theorem inoX_set {u v : Int} {non id : List UInt8} (hn : non.length = 16) : (inoX u non id).set 21 v = inoX v non id := by
  have e : ∀ u, inoX u non id = ([1, 0, 0, 0, 0] ++ bs8 non) ++ (u :: (bs8 id ++ List.replicate 34 0)) := fun u => by simp [inoX]
  rw [e, e, List.set_append_right _ _ (by simp [hn])]
  simp [hn]
theorem set_mkI {K : List IntKind} {X : List Int} {i : Nat} {k : IntKind} {v : Int} (hk : K[i]? = some k) (hl : K.length = X.length) : (mkI K X).set i (.int k v) = mkI K (X.set i v) := by
  apply List.ext_getElem?
  intro j
  have hi : i < K.length := (List.getElem?_eq_some_iff.1 hk).1
  by_cases h : i = j
  · subst h
    rw [List.getElem?_set_self (by rw [mkI_length hl]; exact hi), mkI_get hk (by simp; exact hl)]
    simp [List.getD, show i < X.length by omega]
  · rw [List.getElem?_set_ne h]
    simp [mkI, List.getElem?_zipWith, List.getElem?_set_ne h]
theorem built35 (v : List (Nat × Value)) : Tryd.prog.built 35 v = Instr.fill (#[(0, 1), (1, 16)][·]?) z35.toArray v := by kernel_rfl
theorem built42 (v : List (Nat × Value)) : Tryd.prog.built 42 v = Instr.fill (#[(0, 1), (1, 1), (2, 1), (3, 1), (4, 1), (5, 16), (21, 17), (38, 34)][·]?) z42.toArray v := by kernel_rfl
theorem z35_eq : z35 = mkI K35 (0 :: List.replicate 16 0) := rfl
theorem built35_pol {u : Int} {id : List UInt8} (hi : id.length = 16) : Tryd.prog.built 35 [(0, .int .i64 u), (1, .agg (ints .u8 (bs8 id)).toArray)] = some (mkI K35 (u :: bs8 id)).toArray := by
  rw [built35, fill_val (i := 0) (off := 0) rfl rfl (by simp [z35]), fill_agg (i := 1) (off := 1) (s := 16) rfl (by simp [hi]) (by simp [z35])]
  have e : lay (z35.set 0 (.int .i64 u)) 1 (ints .u8 (bs8 id)) = mkI K35 (u :: bs8 id) := by
    rw [z35_eq, set_mkI (k := .i64) rfl rfl, ← mkI22 (bs8 id) (by simp [hi]), lay_mkI (K := K35) (ks := K22) rfl rfl (by simp [hi]; rfl)]
    congr 1
    unfold layI
    rw [show 1 + (bs8 id).length = 17 by simp [hi]]
    simp
  rw [e]; rfl
theorem z42_eq : z42 = mkI K42 (List.replicate 72 0) := rfl
theorem built42_ino {u : Int} {non id : List UInt8} (hn : non.length = 16) (hi : id.length = 16) :
    Tryd.prog.built 42 [(0, .int .i64 1), (6, .agg (mkI K35 (u :: bs8 id)).toArray), (5, .agg (mkI K22 (bs8 non)).toArray)] = some (mkI K42 (inoX u non id)).toArray := by
  have l1 : (mkI K35 (u :: bs8 id)).length = 17 := by rw [mkI_length (by simp [hi]; rfl)]; rfl
  have l2 : (mkI K22 (bs8 non)).length = 16 := by rw [mkI_length (by simp [hn]; rfl)]; rfl
  have l3 : z42.length = 72 := by decide
  rw [built42, fill_val (i := 0) (off := 0) rfl rfl (by omega), fill_agg (i := 6) (off := 21) (s := 17) rfl l1 (by simp; omega), fill_agg (i := 5) (off := 5) (s := 16) rfl l2 (by rw [lay_length (by simp; omega)]; simp; omega)]
  have e : lay (lay (z42.set 0 (.int .i64 1)) 21 (mkI K35 (u :: bs8 id))) 5 (mkI K22 (bs8 non)) = mkI K42 (inoX u non id) := by
    rw [z42_eq, set_mkI (k := .i64) rfl rfl, lay_mkI (K := K42) (ks := K35) rfl (by simp; rfl) (by simp [hi]; rfl),
      lay_mkI (K := K42) (ks := K22) rfl (by rw [layI_length (by simp [hi])]; simp; rfl) (by simp [hn]; rfl)]
    congr 1
    have h1 : layI ((List.replicate 72 0).set 0 1) 21 (u :: bs8 id) = [1, 0, 0, 0, 0] ++ (List.replicate 16 0 ++ (u :: (bs8 id ++ List.replicate 34 0))) := by
      unfold layI
      rw [show 21 + (u :: bs8 id).length = 38 by simp [hi]]
      simp
    rw [h1]
    unfold layI inoX
    have h2 : ([1, 0, 0, 0, 0] ++ (List.replicate 16 0 ++ (u :: (bs8 id ++ List.replicate 34 0)))).drop (5 + (bs8 non).length) = u :: (bs8 id ++ List.replicate 34 0) := by
      rw [← List.append_assoc, List.drop_left' (by simp [hn])]
    rw [h2]
    simp
  rw [e]; rfl
theorem stat_single {id key : List UInt8} (hk : key ≠ []) : stat id [⟨id, key, 0⟩] = 1 ∧ (ent id [⟨id, key, 0⟩]).key = key := by
  have hp : pos id [⟨id, key, 0⟩] = 0 := by simp [pos, lt_irrefl]
  have hh : hit id [⟨id, key, 0⟩] = true := by simp [hit, hp]
  have he : ent id [⟨id, key, 0⟩] = ⟨id, key, 0⟩ := by simp [ent, hp]
  exact ⟨by unfold stat; rw [hh, he]; simp [hk], by rw [he]⟩
theorem add_first (id key : List UInt8) : Kr.add id key [] = [⟨id, key, 0⟩] := by simp [Kr.add, hit, pos]
theorem ring_new {w : World} {r bo : Nat} (hr : Blk w r 125 (0, 0) [.pointer (some ⟨bo, 0, none⟩), .slice none 0 0]) (ho : Blk w bo 129 (0, 0) z129) (hc : ∃ fz, Blk w 1 243 fz (ints .u64 (ws kSha))) : RingAt w r bo [] (fun j => j = r) := by
  obtain ⟨fz, hc⟩ := hc
  exact ⟨⟨none, 0, hr, Own.nil _ _ _, fun j hj => by simp [blkOf] at hj⟩, ho, ⟨fz, hc⟩, ho.ne hr (by decide), hc.ne hr (by decide), rfl, (fun x hx => by cases hx), List.Pairwise.nil, by simp, fun j hj => by subst hj; exact hr.lt⟩
theorem der_ok {u : Int} {id non : List UInt8} {L : Ring} {c : UInt8} {n : Nat} {w w' : World} {e : Ending} (h : DerP u id non L c n w e w') (hu : u ≠ 0) (hs : stat id L = 1) :
    Kp No w w' ∧ ∃ a' cap', e = .returned (.tuple #[.slice a' n cap', .int .i64 0]) ∧ Own w' 5 1 a' n cap' (ints .u8 (bs8 (derive (ent id L).key c non n))) ∧ (∀ j, blkOf a' j → w.heap.size ≤ j) := by
  obtain ⟨k, h⟩ := h
  rw [if_neg hu, if_pos hs] at h
  exact ⟨k, h⟩
/-- A nonce out of the two. -/
theorem x_load_non {n : Nat} {env : Env} {w : World} {dst : Option Tmp} {ty : TypeId} {pos : String} {aft : Array Edge} {g : Option (Nat × Bool)} {x : Operand} {b off : Nat} {A B C : List UInt8} (hx : ev n env x = .pointer (some ⟨b, off, none⟩))
    (hB : Blk w b 23 (0, 0) (ints .u8 (bs8 (A ++ (B ++ C))))) (ho : off = A.length) (hb : B.length = 16) : Run Tryd.prog n env ⟨dst, .load 22 x, ty, pos, aft, g⟩ w (.ok (.value (.agg (mkI K22 (bs8 B)).toArray)) w) := by
  rw [mkI22 _ (by simp [hb])]
  refine x_loadN hx hB (by simp [hb]) (fun j hj => ?_)
  subst ho
  have : ints .u8 (bs8 (A ++ (B ++ C))) = ints .u8 (bs8 A) ++ (ints .u8 (bs8 B) ++ ints .u8 (bs8 C)) := by simp [ints, bs8]
  rw [this, List.getElem?_append_right (by simp), List.getElem?_append_left (by simp [hb]; omega)]
  simp
theorem seg_non {w : World} {b off : Nat} {A B C : List UInt8} (hB : Blk w b 23 (0, 0) (ints .u8 (bs8 (A ++ (B ++ C))))) (ho : off = A.length) : Seg w b off (ints .u8 (bs8 B)) := fun j hj => by
  subst ho
  have : ints .u8 (bs8 (A ++ (B ++ C))) = ints .u8 (bs8 A) ++ (ints .u8 (bs8 B) ++ ints .u8 (bs8 C)) := by simp [ints, bs8]
  rw [hB.cell, this, List.getElem?_append_right (by simp), List.getElem?_append_left (by simpa using hj)]
  simp
set_option maxRecDepth 100000 in
set_option maxHeartbeats 8000000 in
theorem nonces_row (W : World) (hC : ∃ fz, Blk W 1 243 fz (ints .u64 (ws kSha))) (n0 n1 : List UInt8) (h0 : n0.length = 16) (h1 : n1.length = 16) (u : Bool) :
    Calls Tryd.prog 3 #[.agg (ints .u8 (bs8 (n0 ++ n1))).toArray, .bool u] W fun e w' => e = .returned (.bool true) ∧ RowKit.Below W.heap.size W w' := by
  refine calls_at (n := 124) Tryd.func3 rfl rfl (by simp) ?_
  (refine At_seq ?_; refine At_region ?_)
  refine AtR_go rfl (AtG_box rfl fun bn w1 hbn e1 => ?_)
  have Bn : Blk w1 bn 23 (0, 0) (ints .u8 (bs8 (n0 ++ n1))) := e1.blk
  have K1 : Kp No W w1 := e1.kp (.inr (by omega))
  clear e1
  (refine s_as ?_; refine AtR_nil ?_; refine At_seq ?_; refine At_seq ?_; refine At_region ?_)
  refine s_call x_call (awake_calls _) ?_
  rintro _ w2 ⟨rfl, k2⟩
  refine ⟨_, rfl, ?_⟩
  replace Bn := Bn.kp k2 fun h => h
  have K2 := K1.trans k2
  clear K1 k2
  (refine s_nt ?_; refine AtR_nil ?_; refine At_cond_f rfl ?_; refine At_skip ?_; refine At_seq ?_; refine At_region ?_)
  refine s_call x_call (real_calls _) ?_
  rintro _ w3 ⟨bo, rfl, BO, hbo, k3⟩
  refine ⟨_, rfl, ?_⟩
  refine s_call x_call (ring_calls bo _) ?_
  rintro _ w4 ⟨r, rfl, BR, hr, k4⟩
  refine ⟨_, rfl, ?_⟩
  replace Bn := (Bn.kp k3 fun h => h).kp k4 fun h => h
  replace BO := BO.kp k4 fun h => h
  have K4 := (K2.trans k3).trans k4
  have hR4 := ring_new BR BO (by obtain ⟨fz, hc⟩ := hC; exact ⟨fz, hc.kp K4 fun h => h⟩)
  have hrW : W.heap.size ≤ r := Nat.le_trans (K2.trans k3).size hr
  clear K2 k3 k4 BR BO
  (refine s_mv ?_; refine s_ex ?_; refine s_ex ?_; refine s_as ?_; refine s_as ?_; refine AtR_nil ?_; refine At_seq ?_; refine At_region ?_)
  refine AtR_go rfl (AtG_make1 (z := .int .u8 0) rfl rfl (by omega) (by omega) rfl (by omega) (by omega) fun bk w5 hbk e5 => ?_)
  have BK : Blk w5 bk 5 (0, 0) (ints .u8 (bs8 (List.replicate 32 0))) := e5.blk
  have k5 : Kp No w4 w5 := e5.kp (.inr (by omega))
  clear e5
  replace Bn := Bn.kp k5 fun h => h
  have K5 := K4.trans k5
  have hR5 := hR4.kpn k5
  clear k5 K4
  obtain ⟨K0, hK0⟩ : ∃ K : List UInt8, K = List.replicate 32 0 := ⟨_, rfl⟩
  rw [← hK0] at BK
  have hK32 : K0.length = 32 := by rw [hK0]; rfl
  have hidl := idK_length K0
  have hok : addOk (idK K0) K0 (ents []) = 0 := by unfold addOk; rw [if_neg (by omega), if_neg (by simp [ents])]
  have hkr : bk ≠ r := by have := hR4.dlt r rfl; omega
  have hnr : bn ≠ r := Bn.ne hR5.es.choose_spec.choose_spec.1 (by decide)
  (refine s_as ?_; refine AtR_nil ?_; refine At_seq ?_; refine At_region ?_; refine s_mv ?_; refine s_mv ?_)
  refine s_call x_call (add_calls [] K0 _ 32 32 r bo _ (Dk := fun j => j = bk) hR5 Kr.Good.nil ((BK.sl (m := 32) (by simp [hK32]) (by omega)).e fun b hb => by simp [blkOf] at hb; exact hb.symm) (fun h => by cases h) (by rintro b rfl; exact hkr)) ?_
  rintro _ w6 ⟨rfl, xs, D, hR6, hL, hD, k6⟩
  refine ⟨_, rfl, ?_⟩
  rw [hok]
  rw [hok, if_pos rfl, show ents [] = [] from rfl, add_first] at hL
  simp only [if_true]
  obtain ⟨hst, hke⟩ := stat_single (id := idK K0) (key := K0) (fun h => by rw [h] at hK32; cases hK32)
  have hgood : Kr.Good (ents xs) := by
    rw [hL, ← add_first]
    exact good_add Kr.Good.nil hidl hok
  rw [← hL] at hst hke
  replace Bn := Bn.kp k6 hnr
  replace BK := BK.kp k6 hkr
  have K6 : Kp No W w6 := K5.trans' k6 (by rintro j rfl; exact .inr hrW)
  clear K5 k6 hD hR4 hR5
  (refine s_mv ?_; refine s_ex ?_; refine s_ex ?_)
  refine AtR_go rfl (AtG_alloc fun b8 w7 hb8 e7 => ?_)
  have k7 : Kp No w6 w7 := e7.kp (.inr (by omega))
  have z7 := e7.size
  have d8 : ∀ j, D j → j ≠ b8 := fun j hj e => by have := hR6.dlt j hj; omega
  refine AtR_go rfl (G_skip (r_store_all (s := 16) rfl rfl e7.blk (by simp [hidl]) (by simp [z22]) (ints_one _ _)) fun w8 e8 => ?_)
  have B8 : Blk w8 b8 22 (0, 0) (ints .u8 (bs8 (idK K0))) := e8.blk
  have k8 : Kp No w6 w8 := k7.trans' (e8.kp (S := fun j => j = b8) (.inl rfl)) (by rintro j rfl; right; omega)
  clear e7 e8 k7
  replace Bn := Bn.kp k8 fun h => h
  replace BK := BK.kp k8 fun h => h
  have K8 := K6.trans k8
  have hR8 := hR6.kpn k8
  clear k8 K6 hR6 d8
  (refine s_as ?_; refine AtR_nil ?_; refine At_seq ?_; refine At_seq ?_; refine At_region ?_; refine s_mv ?_; refine s_neq ?_; refine AtR_nil ?_; refine At_cond_f rfl ?_; refine At_skip ?_; refine At_seq ?_; refine At_region ?_)
  refine s_val (x_load_all rfl B8 (by simp [hidl])) ?_
  refine s_val (x_build (by first | rfl | exact rfl) (built35_pol (u := 16) hidl)) ?_
  refine s_val (x_indexAddr_arr rfl rfl (by omega) (by omega)) ?_
  refine s_val (x_load_non (A := []) (B := n0) (C := n1) rfl Bn rfl h0) ?_
  refine s_val (x_build (by first | rfl | exact rfl) (built42_ino (u := 16) h0 hidl)) ?_
  obtain ⟨X, hX⟩ : ∃ X, X = inoX 16 n0 (idK K0) := ⟨_, rfl⟩
  have hIX : Ino X (idK K0) n0 := by rw [hX]; exact inoX_ino h0 hidl
  have hUX : unit X = 16 := by rw [hX]; exact inoX_unit h0
  have hX72 := hIX.len
  have hX2 : layI X 5 (bs8 n1) = inoX 16 n1 (idK K0) := by rw [hX]; exact inoX_nonce h0 h1
  rw [← hX]
  refine AtR_go rfl (AtG_alloc fun bx w9 hbx e9 => ?_)
  have z9 := e9.size
  refine AtR_go rfl (G_skip (r_store_all (s := 72) rfl rfl e9.blk (by rw [mkI_length hX72]; rfl) rfl (mkI_one _ _)) fun w10 e10 => ?_)
  have BX : Blk w10 bx 42 (0, 0) (mkI K42 X) := e10.blk
  have k10 : Kp No w8 w10 := (e9.kp (S := No) (.inr (by omega))).trans' (e10.kp (S := fun j => j = bx) (.inl rfl)) (by rintro j rfl; right; omega)
  clear e9 e10
  replace Bn := Bn.kp k10 fun h => h
  replace BK := BK.kp k10 fun h => h
  have K10 := K8.trans k10
  have hR10 := hR8.kpn k10
  clear k10 K8 hR8 B8
  (refine AtR_nil ?_; refine At_seq ?_; refine At_region ?_; refine s_ld ?_)
  refine AtR_go rfl (AtG_alloc fun bY w11 hby e11 => ?_)
  have z11 := e11.size
  refine AtR_go rfl (G_skip (r_store_all (s := 72) rfl rfl e11.blk (by rw [mkI_length hX72]; rfl) rfl (mkI_one _ _)) fun w12 e12 => ?_)
  have BY : Blk w12 bY 42 (0, 0) (mkI K42 X) := e12.blk
  have k12 : Kp No w10 w12 := (e11.kp (S := No) (.inr (by omega))).trans' (e12.kp (S := fun j => j = bY) (.inl rfl)) (by rintro j rfl; right; omega)
  have hxy : bx ≠ bY := by have := BX.lt; omega
  have hYw : w10.heap.size ≤ bY := by omega
  clear e11 e12
  replace Bn := Bn.kp k12 fun h => h
  replace BK := BK.kp k12 fun h => h
  replace BX := BX.kp k12 fun h => h
  have hR12 := hR10.kpn k12
  have dY : ∀ j, D j → j ≠ bY := fun j hj e => by have := hR10.dlt j hj; omega
  have obY : bo ≠ bY := by have := hR10.ob.lt; omega
  have cY : 1 ≠ bY := by obtain ⟨fz, hc⟩ := hR10.con; have := hc.lt; omega
  have K12 := K10.trans k12
  clear k12 hR10
  (refine AtR_nil ?_; refine At_seq ?_; refine At_region ?_)
  refine s_val (x_indexAddr_arr rfl rfl (by omega) (by omega)) ?_
  refine s_val (x_load_non (A := n0) (B := n1) (C := []) rfl (by rw [List.append_nil]; exact Bn) (by rw [h0]; rfl) h1) ?_
  (refine s_fa ?_)
  refine AtR_go rfl (AtG_store_fl (K := K42) (ks := K22) (X := X) (Y := bs8 n1) rfl rfl BY rfl hX72 (by simp [h1]; rfl) rfl fun w13 e13 => ?_)
  have BY0 := BY
  rw [hX2] at e13
  obtain ⟨Y1, hY1⟩ : ∃ Y, Y = inoX 16 n1 (idK K0) := ⟨_, rfl⟩
  rw [← hY1] at e13
  have BY1 : Blk w13 bY 42 (0, 0) (mkI K42 Y1) := e13.blk
  have k13 : Kp (fun j => j = bY) w12 w13 := e13.kp (.inl rfl)
  clear e13 BY hX2
  replace Bn := Bn.kp k13 (Bn.ne BY0 (by decide))
  replace BK := BK.kp k13 (BK.ne BY0 (by decide))
  replace BX := BX.kp k13 hxy
  have hR13 := hR12.kp k13 (by rintro j rfl; exact ⟨fun h => dY _ h rfl, obY.symm, cY.symm⟩)
  have K13 : Kp No W w13 := K12.trans' k13 (by rintro j rfl; right; have := K10.size; omega)
  clear k13 hR12 K12
  have hIY1 : Ino Y1 (idK K0) n1 := by rw [hY1]; exact inoX_ino h1 hidl
  have hUY1 : unit Y1 = 16 := by rw [hY1]; exact inoX_unit h1
  have hY172 := hIY1.len
  have hset : Y1.set 21 32 = inoX 32 n1 (idK K0) := by rw [hY1]; exact inoX_set h1
  (refine AtR_nil ?_; refine At_seq ?_; refine At_seq ?_; refine At_region ?_; refine s_mv ?_; refine AtR_nil ?_)
  refine At_meet (σ := List Int) (fun s => [(2, .pointer (some ⟨bn, 0, none⟩)), (5, .pointer (some ⟨r, 0, none⟩)), (7, .slice (some ⟨bk, 0, none⟩) 32 32), (10, .pointer (some ⟨bx, 0, none⟩)), (11, .pointer (some ⟨bY, 0, none⟩))])
    (fun s w' => Ino s (idK K0) n1 ∧ unit s ≠ 0 ∧ Blk w' bn 23 (0, 0) (ints .u8 (bs8 (n0 ++ n1))) ∧ Blk w' bk 5 (0, 0) (ints .u8 (bs8 K0)) ∧ Blk w' bx 42 (0, 0) (mkI K42 X) ∧ Blk w' bY 42 (0, 0) (mkI K42 s) ∧ RingAt w' r bo xs D ∧ Kp No W w') ?_ ?_
  · clear Bn BK BX BY1 hR13 K13 hIY1 hUY1 hY172 hset
    rintro Y w14 junk ⟨hIY, hUY, Bn, BK, BX, BY, hR, K⟩
    have hY72 := hIY.len
    have hUX0 : unit X ≠ 0 := by rw [hUX]; decide
    (refine At_seq ?_; refine At_region ?_; refine s_mv ?_; refine s_ld ?_)
    refine s_call x_call ((contents_calls xs X (idK K0) n0 r bo _ hR hgood hIX).mono fun e w' h => der_ok h hUX0 hst) ?_
    rintro _ w15 ⟨k15, a1, c1, rfl, A1, _⟩
    refine ⟨_, rfl, ?_⟩
    rw [hke] at A1
    replace Bn := Bn.kp k15 fun h => h
    replace BK := BK.kp k15 fun h => h
    replace BX := BX.kp k15 fun h => h
    replace BY := BY.kp k15 fun h => h
    replace hR := hR.kpn k15
    replace K := K.trans k15
    clear k15
    (refine s_mv ?_; refine s_ex ?_; refine s_ex ?_; refine s_as ?_; refine s_as ?_; refine AtR_nil ?_; refine At_seq ?_; refine At_region ?_; refine s_mv ?_; refine s_ld ?_)
    refine s_call x_call ((contents_calls xs Y (idK K0) n1 r bo _ hR hgood hIY).mono fun e w' h => der_ok h hUY hst) ?_
    rintro _ w16 ⟨k16, a2, c2, rfl, A2, _⟩
    refine ⟨_, rfl, ?_⟩
    rw [hke] at A2
    replace Bn := Bn.kp k16 fun h => h
    replace BK := BK.kp k16 fun h => h
    replace BX := BX.kp k16 fun h => h
    replace BY := BY.kp k16 fun h => h
    replace A1 := A1.kp k16 fun _ _ h => h
    replace hR := hR.kpn k16
    replace K := K.trans k16
    clear k16
    (refine s_mv ?_; refine s_ex ?_; refine s_ex ?_; refine s_as ?_; refine s_as ?_; refine AtR_nil ?_; refine At_seq ?_; refine At_region ?_; refine s_mv ?_; refine s_ld ?_)
    refine s_call x_call ((names_calls xs X (idK K0) n0 r bo _ hR hgood hIX).mono fun e w' h => der_ok h hUX0 hst) ?_
    rintro _ w17 ⟨k17, a3, c3, rfl, A3, _⟩
    refine ⟨_, rfl, ?_⟩
    rw [hke] at A3
    replace Bn := Bn.kp k17 fun h => h
    replace BK := BK.kp k17 fun h => h
    replace BX := BX.kp k17 fun h => h
    replace BY := BY.kp k17 fun h => h
    replace A1 := A1.kp k17 fun _ _ h => h
    replace A2 := A2.kp k17 fun _ _ h => h
    replace hR := hR.kpn k17
    replace K := K.trans k17
    clear k17
    (refine s_mv ?_; refine s_ex ?_; refine s_ex ?_; refine s_as ?_; refine s_as ?_; refine AtR_nil ?_; refine At_seq ?_; refine At_region ?_; refine s_mv ?_; refine s_ld ?_)
    refine s_call x_call ((names_calls xs Y (idK K0) n1 r bo _ hR hgood hIY).mono fun e w' h => der_ok h hUY hst) ?_
    rintro _ w18 ⟨k18, a4, c4, rfl, A4, _⟩
    refine ⟨_, rfl, ?_⟩
    rw [hke] at A4
    replace Bn := Bn.kp k18 fun h => h
    replace BK := BK.kp k18 fun h => h
    replace A1 := A1.kp k18 fun _ _ h => h
    replace A2 := A2.kp k18 fun _ _ h => h
    replace A3 := A3.kp k18 fun _ _ h => h
    replace K := K.trans k18
    clear k18 BX BY hR
    (refine s_mv ?_; refine s_ex ?_; refine s_ex ?_; refine s_as ?_; refine s_as ?_; refine AtR_nil ?_; refine At_seq ?_; refine At_seq ?_; refine At_region ?_; refine s_mv ?_; refine s_ln ?_; refine s_neq ?_; refine s_mv ?_; refine s_yes rfl rfl rfl rfl ?_; refine g_mv ?_; refine s_yes rfl rfl rfl rfl ?_; refine g_ln ?_; refine s_yes rfl rfl rfl rfl ?_; refine g_neq ?_; refine s_pf ?_; refine s_mv ?_; refine s_yes rfl rfl rfl rfl ?_; refine g_mv ?_; refine s_yes rfl rfl rfl rfl ?_; refine g_ln ?_; refine s_yes rfl rfl rfl rfl ?_; refine g_neq ?_; refine s_pf ?_; refine s_mv ?_; refine s_yes rfl rfl rfl rfl ?_; refine g_mv ?_; refine s_yes rfl rfl rfl rfl ?_; refine g_ln ?_; refine s_yes rfl rfl rfl rfl ?_; refine g_neq ?_; refine s_pf ?_; refine AtR_nil ?_; refine At_cond_f rfl ?_; refine At_skip ?_; refine At_seq ?_; refine At_seq ?_; refine At_region ?_)
    refine s_val (x_indexAddr_arr rfl rfl (by omega) (by omega)) ?_
    refine s_val (x_load_non (A := []) (B := n0) (C := n1) rfl Bn rfl h0) ?_
    refine s_val (x_indexAddr_arr rfl rfl (by omega) (by omega)) ?_
    refine s_val (x_load_non (A := n0) (B := n1) (C := []) rfl (by rw [List.append_nil]; exact Bn) (by rw [h0]; rfl) h1) ?_
    refine s_val (x_eql_flat rfl rfl (by simp [h0]; rfl) (by simp [h1]; rfl)) ?_
    by_cases hnn : n0 = n1
    · subst hnn
      rw [decide_eq_true rfl]
      (refine AtR_nil ?_; refine At_cond_t rfl ?_; refine At_seq ?_; refine At_region ?_; refine s_mv ?_)
      refine s_val (x_conv_bs (D := fun _ => True) rfl (A1.sl.e fun _ _ => trivial)) ?_
      (refine s_mv ?_)
      refine s_val (x_conv_bs (D := fun _ => True) rfl (A2.sl.e fun _ _ => trivial)) ?_
      refine s_val (x_eql_str rfl rfl) ?_
      rw [decide_eq_true rfl]
      (refine s_mv ?_; refine s_yes rfl rfl rfl rfl ?_; refine g_mv ?_)
      refine s_yes rfl rfl rfl rfl (g_val (x_conv_bs (D := fun _ => True) rfl (A3.sl.e fun _ _ => trivial)) ?_)
      (refine s_yes rfl rfl rfl rfl ?_; refine g_mv ?_)
      refine s_yes rfl rfl rfl rfl (g_val (x_conv_bs (D := fun _ => True) rfl (A4.sl.e fun _ _ => trivial)) ?_)
      refine s_yes rfl rfl rfl rfl (g_val (x_eql_str rfl rfl) ?_)
      rw [decide_eq_true rfl]
      (refine s_pt ?_; refine s_as ?_; refine AtR_nil ?_)
      refine At_ret1 Tryd.func3 rfl (by conv => lhs; whnf) ?_
      exact ⟨rfl, K.below⟩
    · rw [decide_eq_false (fun h => hnn (by
        have := congrArg (List.map fun x : Int => UInt8.ofNat x.toNat) h
        simpa [bs8, ub, Function.comp_def] using this))]
      (refine AtR_nil ?_; refine At_cond_f rfl ?_; refine At_skip ?_; refine At_seq ?_)
      have kd := Kp.drew (S := No) (w := w18)
      replace Bn := Bn.kp kd fun h => h
      replace BK := BK.kp kd fun h => h
      replace A1 := A1.kp kd fun _ _ h => h
      replace A2 := A2.kp kd fun _ _ h => h
      replace K := K.trans kd
      refine At_draw (fun _ => True) rfl ?_
      have hS : True := trivial
      (apply AtH_take 0 rfl (by decide +kernel) (by exact rfl); (focus (intro wx hx; skip; exact x_move (by conv => lhs; whnf))); (focus (exact hS)))
      (apply AtH_take 4 rfl (by decide +kernel) (by exact rfl); (focus (intro wx hx; skip; exact x_move (by conv => lhs; whnf))); (focus (exact hS)))
      -- ready now: 1 indexAddr 23 t2 0:i64, 5 indexAddr 23 t2 1:i64
      refine AtH_take 1 rfl (by decide +kernel) rfl (fun wx hx => x_indexAddr_arr rfl rfl (by omega) (by omega)) hS ?_
      refine AtH_take 5 rfl (by decide +kernel) rfl (fun wx hx => x_indexAddr_arr rfl rfl (by omega) (by omega)) hS ?_
      (apply AtH_take 2 rfl (by decide +kernel) (by exact rfl); (focus (intro wx hx; skip; exact x_slice_arr rfl)); (focus (exact hS)))
      (apply AtH_take 6 rfl (by decide +kernel) (by exact rfl); (focus (intro wx hx; skip; exact x_slice_arr rfl)); (focus (exact hS)))
      -- ready now: 3 call f22(t108, 2:u8, t110, 64:i64)
      have sg0 : SlE w18.drew .u8 (some ⟨bn, 0 + (0 : Int).toNat * 16, none⟩) 16 16 (bs8 n0) (fun _ => True) := ⟨by simp [h0], Nat.le_refl _, by omega, .inr ⟨bn, _, rfl, Bn.lt, trivial, seg_non (A := []) (B := n0) (C := n1) Bn rfl⟩⟩
      have sg1 : SlE w18.drew .u8 (some ⟨bn, 0 + (1 : Int).toNat * 16, none⟩) 16 16 (bs8 n1) (fun _ => True) := ⟨by simp [h1], Nat.le_refl _, by omega, .inr ⟨bn, _, rfl, Bn.lt, trivial, seg_non (A := n0) (B := n1) (C := []) (by rw [List.append_nil]; exact Bn) (by rw [h0]; rfl)⟩⟩
      have sk : SlE w18.drew .u8 (some ⟨bk, 0, none⟩) 32 32 (bs8 K0) (fun _ => True) := (BK.sl (m := 32) (by simp [hK32]) (by omega)).e fun _ _ => trivial
      refine AtH_call 3 rfl (by decide +kernel) (by exact rfl) x_call  (derive23_calls K0 2 n0 64 _ _ _ _ _ _ _ sk sg0 (by omega) (by omega) (by omega)) ?_
      rintro _ w19 ⟨rfl, k19⟩
      refine ⟨_, rfl, hS, ?_⟩
      -- ready now: 7 call f22(t112, 2:u8, t114, 64:i64)
      refine AtH_call 7 rfl (by decide +kernel) (by exact rfl) x_call  (derive23_calls K0 2 n1 64 _ _ _ _ _ _ _ (sk.kpn k19) (sg1.kpn k19) (by omega) (by omega) (by omega)) ?_
      rintro _ w20 ⟨rfl, k20⟩
      refine ⟨_, rfl, hS, ?_⟩
      refine AtH_take 8 rfl (by decide +kernel) rfl (fun wx hx => x_eql_str rfl rfl) hS ?_
      (apply AtH_take 9 rfl (by decide +kernel) (by exact rfl); (focus (intro wx hx; skip; exact x_assign (by conv => lhs; whnf))); (focus (exact hS)))
      refine AtH_done (by decide +kernel) ?_
      have K20 := (K.trans k19).trans k20
      replace A1 := (A1.kp k19 fun _ _ h => h).kp k20 fun _ _ h => h
      replace A2 := (A2.kp k19 fun _ _ h => h).kp k20 fun _ _ h => h
      (refine At_seq ?_; refine At_region ?_; refine s_mv ?_)
      refine s_val (x_conv_bs (D := fun _ => True) rfl (A1.sl.e fun _ _ => trivial)) ?_
      (refine s_mv ?_)
      refine s_val (x_conv_bs (D := fun _ => True) rfl (A2.sl.e fun _ _ => trivial)) ?_
      refine s_val (x_eql_str rfl rfl) ?_
      (refine s_mv ?_)
      refine s_val (x_eql_bool rfl rfl) ?_
      rw [show ∀ b : Bool, (b == b) = true from fun b => by cases b <;> rfl]
      (refine s_as ?_; refine AtR_nil ?_)
      refine At_ret1 Tryd.func3 rfl (by conv => lhs; whnf) ?_
      exact ⟨rfl, K20.below⟩
  · intro join
    cases u with
    | false =>
      (refine At_cond_f rfl ?_; refine At_skip ?_)
      exact join Y1 _ _ ⟨rfl, rfl, rfl, rfl, rfl, trivial⟩ ⟨hIY1, by rw [hUY1]; decide, Bn, BK, BX, BY1, hR13, K13⟩
    | true =>
      (refine At_cond_t rfl ?_; refine At_region ?_; refine s_fa ?_; refine s_fa ?_)
      refine AtR_go rfl (G_skip (r_store1 (v := .int .i64 32) rfl rfl BY1 (by rw [mkI_length hY172]; decide) rfl rfl) fun w14 e14 => ?_)
      rw [set_mkI (k := .i64) rfl hY172, hset] at e14
      have k14 : Kp (fun j => j = bY) w13 w14 := e14.kp (.inl rfl)
      (refine AtR_nil ?_)
      exact join (inoX 32 n1 (idK K0)) _ _ ⟨rfl, rfl, rfl, rfl, rfl, trivial⟩ ⟨inoX_ino h1 hidl, by rw [inoX_unit h1]; decide, Bn.kp k14 (Bn.ne BY1 (by decide)), BK.kp k14 (BK.ne BY1 (by decide)), BX.kp k14 hxy, e14.blk,
        hR13.kp k14 (by rintro j rfl; exact ⟨fun h => dY _ h rfl, obY.symm, cY.symm⟩), K13.trans' k14 (by rintro j rfl; right; have := K10.size; omega)⟩
end Go.Proofs.YtfngacepjcdlnaaDoor

namespace Go.Proofs.YtfngacepjcdlnaaDoor
open Go Go.Kx Go.Kr
theorem octs_of {m : Nat} {xs : List Int} (hl : (List.replicate m IntKind.u8).length = xs.length) (hh : ∀ (i : Nat) (k : IntKind), (List.replicate m IntKind.u8)[i]? = some k → k.has (xs.getD i 0)) : ∃ l : List UInt8, xs = bs8 l ∧ l.length = m := by
  rw [List.length_replicate] at hl
  refine ⟨xs.map fun x => UInt8.ofNat x.toNat, ?_, by simp [hl]⟩
  apply List.ext_getElem (by simp)
  intro i h1 h2
  have hi : i < m := by omega
  have h := hh i .u8 (by simp [hi])
  have hb : 0 ≤ xs[i] ∧ xs[i] ≤ 255 := by
    have e : xs.getD i 0 = xs[i] := by simp [List.getD, h1]
    rw [e] at h
    have m1 : IntKind.u8.min = 0 := rfl
    have m2 : IntKind.u8.max = 255 := rfl
    simpa [IntKind.has, m1, m2] using h
  simp only [bs8, List.map_map, List.getElem_map, Function.comp, ub]
  rw [UInt8.toNat_ofNat']
  omega
theorem nonces_in (W : World) (hC : ∃ fz, Blk W 1 243 fz (ints .u64 (ws kSha))) (xs : List Int) (hl : K23.length = xs.length) (hh : ∀ (i : Nat) (k : IntKind), K23[i]? = some k → k.has (xs.getD i 0)) (u : Bool) :
    Calls Tryd.prog 3 #[.agg (mkI K23 xs).toArray, .bool u] W fun e w' => e = .returned (.bool true) ∧ RowKit.Below W.heap.size W w' := by
  obtain ⟨l, rfl, h32⟩ := octs_of (m := 32) hl hh
  rw [show mkI K23 (bs8 l) = ints .u8 (bs8 l) from mkI_replicate .u8 32 _ (by simp [h32])]
  have e : l = l.take 16 ++ l.drop 16 := (List.take_append_drop 16 l).symm
  rw [e]
  exact nonces_row W hC (l.take 16) (l.drop 16) (by simp; omega) (by simp; omega) u
end Go.Proofs.YtfngacepjcdlnaaDoor
