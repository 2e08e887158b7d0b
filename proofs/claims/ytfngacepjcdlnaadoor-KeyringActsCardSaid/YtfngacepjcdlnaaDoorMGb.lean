/- A ring's wipe, drop, Hold. | A ring's Hold, Release, Remove. | A ring's Remove, Derive. | A ring's Add. -/
import Derived.Test.YtfngacepjcdlnaaDoorMGa
import Derived.Test.YtfngacepjcdlnaaDoorMHe
import Derived.Test.YtfngacepjcdlnaaDoorMKb
set_option linter.unusedVariables false
namespace Go.Kx
open Go
theorem x_makeFunc1 {P : Program} {n : Nat} {env : Env} {w : World} {dst : Option Tmp} {ty : TypeId} {pos : String} {aft : Array Edge} {g : Option (Nat × Bool)} {fn : FuncId} {a : Operand} {u : Value} (ha : ev n env a = u) :
    Run P n env ⟨dst, .makeFunc (.func fn) #[] #[a], ty, pos, aft, g⟩ w (.ok (.value (.func (.func fn) #[] #[u])) w) := by
  unfold Run
  simp [execOp, ha, Instr.makeFunc]
end Go.Kx
namespace Go.Proofs.YtfngacepjcdlnaaDoor
open Go Go.Kx Go.Kr
theorem enOf_ent {id : List UInt8} {xs : List En} (h : hit id (ents xs) = true) : ∃ hl : pos id (ents xs) < xs.length, (xs.getD (pos id (ents xs)) default).e = ent id (ents xs) := by
  obtain ⟨hl, e1, _⟩ := ent_eq h
  exact ⟨by simpa using hl, enOf_e h⟩
theorem ents_set (xs : List En) (i : Nat) (y : En) : ents (xs.set i y) = (ents xs).set i y.e := by simp [ents, List.map_set]
set_option maxRecDepth 100000 in
theorem wipe_calls (x : En) (w : World) (h : EnAt w x) :
    Calls Tryd.prog 84 #[.pointer (some ⟨x.p, 0, none⟩)] w fun e w' => e = .returned (.tuple #[]) ∧ EnAt w' ⟨x.p, none, 0, { x.e with key := [] }⟩ ∧ Kp (fun j => j = x.p ∨ blkOf x.ka j) w w' := by
  refine calls_at (n := 9) Tryd.func84 rfl rfl (by simp) ?_
  have hrow := h.row
  have l16 := en16 h
  have hlen := en_len h
  (refine At_seq ?_; refine At_region ?_; refine s_mv ?_; refine s_nc ?_; refine s_fa ?_)
  refine s_val (x_load1 rfl hrow l16) ?_
  have hkl := h.key.1
  have fin : ∀ w1, Blk w1 x.p 137 (0, 0) (enCells x) → Kp (fun j => j = x.p ∨ blkOf x.ka j) w w1 → ∀ w2, Eff w1 w2 x.p (.cells ((enCells x).set 16 (.slice none 0 0)).toArray 137 (0, 0)) →
      EnAt w2 ⟨x.p, none, 0, { x.e with key := [] }⟩ ∧ Kp (fun j => j = x.p ∨ blkOf x.ka j) w w2 := fun w1 hB K w2 e => by
    refine ⟨⟨?_, Own.nil _ _ _, h.id, h.few⟩, K.trans (e.kp (.inl (.inl rfl)))⟩
    have := en_set16 h none 0 []
    simp only [List.length_nil] at this
    rw [this] at e
    exact e.blk
  by_cases h0 : x.e.key.length = 0
  · rw [h0]
    refine AtR_go rfl (AtG_value (x_clear0 rfl) ?_)
    (refine AtR_nil ?_; refine At_region ?_; refine s_mv ?_; refine s_nc ?_; refine s_fa ?_)
    refine AtR_go rfl (G_skip (r_store1 (v := .slice none 0 0) rfl rfl hrow (by omega) rfl rfl) fun w2 e2 => ?_)
    (refine AtR_nil ?_)
    obtain ⟨g1, g2⟩ := fin w hrow (Kp.refl _ _) w2 e2
    exact At_end0 Tryd.func84 rfl ⟨rfl, g1, g2⟩
  · obtain ⟨kb, sp, hka, hKB, hl, hc⟩ := h.key.some_of (by have := h.key.2.1; omega)
    rw [hka]
    refine AtR_go rfl (G_val (r_clear (z := .int .u8 0) rfl (by omega) hKB (by simp) rfl) ?_)
    rintro _ w1 ⟨rfl, e1⟩
    have hne : x.p ≠ kb := hrow.ne hKB (by decide)
    have hrow1 := hrow.eff e1 hne
    (refine AtR_nil ?_; refine At_region ?_; refine s_mv ?_; refine s_nc ?_; refine s_fa ?_)
    refine AtR_go rfl (G_skip (r_store1 (v := .slice none 0 0) rfl rfl hrow1 (by omega) rfl rfl) fun w2 e2 => ?_)
    (refine AtR_nil ?_)
    obtain ⟨g1, g2⟩ := fin w1 hrow1 (e1.kp (.inl (.inr (by rw [hka]; simp [blkOf])))) w2 e2
    rw [hka] at g2
    exact At_end0 Tryd.func84 rfl ⟨rfl, g1, g2⟩
theorem ents_erase (xs : List En) (i : Nat) : ents (xs.eraseIdx i) = (ents xs).eraseIdx i := by
  apply List.ext_getElem?
  intro k
  simp only [ents, List.getElem?_map, List.getElem?_eraseIdx]
  split <;> rfl
set_option maxRecDepth 100000 in
set_option maxHeartbeats 1000000 in
theorem drop_calls (xs : List En) (i : Nat) (r bo : Nat) (w : World) {D : Nat → Prop} (hR : RingAt w r bo xs D) (hi : i < xs.length) :
    Calls Tryd.prog 85 #[.pointer (some ⟨r, 0, none⟩), .pointer (some ⟨(xs.getD i default).p, 0, none⟩)] w
      fun e w' => e = .returned (.tuple #[]) ∧ RingAt w' r bo (if (xs.getD i default).e.holds = 0 ∧ (xs.getD i default).e.key = [] then xs.eraseIdx i else xs) D ∧ Kp D w w' ∧ EnAt w' (xs.getD i default) := by
  refine calls_at (n := 26) Tryd.func85 rfl rfl (by simp) ?_
  (refine At_seq ?_; refine At_region ?_)
  refine AtR_go rfl (AtG_box rfl fun b w1 hb e1 => ?_)
  have B1 : Blk w1 b 135 (0, 0) [.pointer (some ⟨(xs.getD i default).p, 0, none⟩)] := e1.blk
  have K1 : Kp No w w1 := e1.kp (.inr (by omega))
  clear e1
  have hR1 := hR.kpn K1
  obtain ⟨hE, hd1, hd2⟩ := hR1.en _ (mem_getD hi)
  have hrow := hE.row
  have l16 := en16 hE
  have l17 := en17 hE
  have hbD : ¬ D b := fun h => by have := hR.dlt b h; omega
  (refine AtR_nil ?_; refine At_seq ?_; refine At_region ?_; refine s_ld ?_; refine s_nc ?_; refine s_fa ?_)
  refine s_val (x_load1 rfl hrow l17) ?_
  by_cases h0 : (xs.getD i default).e.holds = 0
  · (refine s_eql ?_; refine s_mv ?_; refine s_yes rfl rfl rfl rfl ?_; refine g_ld ?_; refine s_yes rfl rfl rfl rfl ?_; refine g_nc ?_; refine s_yes rfl rfl rfl rfl ?_; refine g_fa ?_)
    refine s_yes rfl rfl rfl rfl (g_val (x_load1 rfl hrow l16) ?_)
    by_cases hk : (xs.getD i default).e.key = []
    · have hk0 : (xs.getD i default).e.key.length = 0 := by rw [hk]; rfl
      (refine s_yes rfl rfl rfl rfl ?_; refine g_ln ?_; refine s_yes rfl rfl rfl rfl ?_; refine g_eql ?_; refine s_pt ?_; refine AtR_nil ?_; refine At_cond_t rfl ?_; refine At_region ?_; refine s_mv ?_; refine s_mv ?_; refine s_nc ?_; refine s_fa ?_)
      obtain ⟨a, cap, R1, hO, hOD⟩ := hR1.es
      refine s_val (x_load1 rfl R1 rfl) ?_
      refine s_val (x_makeFunc1 rfl) ?_
      have hba : ¬ blkOf a b := fun h => by have := hR.dlt b (hOD b h); omega
      refine s_call x_call (deleteFunc_calls xs i b a cap _ hO (fun x hx => ⟨_, (hR1.en x hx).1.row⟩) (nod_of hR1.ap) hi (by have := hR1.few; omega) B1 hba) ?_
      rintro _ w2 ⟨rfl, hO2, k2⟩
      refine ⟨_, rfl, ?_⟩
      have hra : ¬ blkOf a r := hO.ne R1 (by decide)
      have R2 := R1.kp k2 hra
      (refine s_nc ?_; refine s_fa ?_)
      refine AtR_go rfl (G_skip (r_store1 (v := .slice a (xs.length - 1) cap) rfl rfl R2 (by simp) rfl rfl) fun w3 e3 => ?_)
      have k3 : Kp (fun j => j = r) w2 w3 := e3.kp (.inl rfl)
      (refine AtR_nil ?_)
      have kD : Kp D w1 w3 := (k2.mono fun j hj => hOD j hj).trans (k3.mono fun j hj => by subst hj; exact hR1.dr)
      have kA : Kp (fun j => blkOf a j ∨ j = r) w1 w3 := (k2.mono fun j hj => .inl hj).trans (k3.mono fun j hj => .inr hj)
      have hno : ∀ {c : Nat} {E : TypeId} {fz : Nat × Nat} {cs : List Value}, Blk w1 c E fz cs → E ≠ 125 → E ≠ 135 → ¬ (blkOf a c ∨ c = r) := by
        intro c E fz cs hB h1 h2 hs
        rcases hs with hs | hs
        · obtain ⟨_, hB'⟩ := hO.blk_of hs; exact hB.ne hB' h2 rfl
        · exact hB.ne R1 h1 hs
      obtain ⟨fz, hc⟩ := hR1.con
      have hle : (xs.eraseIdx i).length = xs.length - 1 := by rw [List.length_eraseIdx, if_pos hi]
      refine At_end0 Tryd.func85 rfl ⟨rfl, ?_, (K1.mono fun _ h => h.elim).trans kD, hE.kp kA (hno hrow (by decide) (by decide)) fun c hc hs => ?_⟩
      · rw [if_pos ⟨h0, hk⟩]
        refine ⟨⟨a, cap, by rw [hle]; exact e3.blk, by rw [hle]; exact hO2.kp k3 (fun j hj hs => hra (hs ▸ hj)), hOD⟩, hR1.ob.kp kA (hno hR1.ob (by decide) (by decide)), ⟨fz, hc.kp kA (hno hc (by decide) (by decide))⟩, hR1.nob, hR1.ncon, hR1.dr, fun x hx => ?_, List.Pairwise.sublist (List.eraseIdx_sublist _ _) hR1.ap, by have := hR1.few; omega, fun j hj => Nat.lt_of_lt_of_le (hR1.dlt j hj) kA.size⟩
        obtain ⟨q1, q2, q3⟩ := hR1.en x ((List.eraseIdx_sublist _ _).subset hx)
        exact ⟨q1.kp kA (hno q1.row (by decide) (by decide)) fun c hc => by obtain ⟨_, hB⟩ := q1.key.blk_of hc; exact hno hB (by decide) (by decide), q2, q3⟩
      · obtain ⟨_, hB⟩ := hE.key.blk_of hc; exact hno hB (by decide) (by decide) hs
    · have hk0 : (xs.getD i default).e.key.length ≠ 0 := fun h => hk (List.eq_nil_of_length_eq_zero h)
      (refine s_yes rfl rfl rfl rfl ?_; refine g_ln ?_; refine s_yes rfl rfl rfl rfl ?_; refine g_eql ?_; refine s_pt ?_; refine AtR_nil ?_; refine At_cond_f rfl ?_; refine At_skip ?_)
      exact At_end0 Tryd.func85 rfl ⟨rfl, by rw [if_neg (fun h => hk h.2)]; exact hR1, K1.mono fun _ h => h.elim, hE⟩
  · (refine s_eql ?_; refine s_mv ?_; refine s_no rfl rfl rfl rfl ?_; refine s_no rfl rfl rfl rfl ?_; refine s_no rfl rfl rfl rfl ?_; refine s_no rfl rfl rfl rfl ?_; refine s_no rfl rfl rfl rfl ?_; refine s_no rfl rfl rfl rfl ?_; refine s_pf ?_; refine AtR_nil ?_; refine At_cond_f rfl ?_; refine At_skip ?_)
    exact At_end0 Tryd.func85 rfl ⟨rfl, by rw [if_neg (fun h => h0 h.1)]; exact hR1, K1.mono fun _ h => h.elim, hE⟩
end Go.Proofs.YtfngacepjcdlnaaDoor

namespace Go.Proofs.YtfngacepjcdlnaaDoor
open Go Go.Kx Go.Kr
/-- What an operation of a ring leaves. -/
def RingTo (w w' : World) (r bo : Nat) (D : Nat → Prop) (L : Ring) : Prop := ∃ xs' D', RingAt w' r bo xs' D' ∧ ents xs' = L ∧ (∀ j, D' j → D j ∨ w.heap.size ≤ j) ∧ Kp D w w'
theorem ringTo_same {w w' : World} {r bo : Nat} {xs : List En} {D : Nat → Prop} (h : RingAt w r bo xs D) (hk : Kp No w w') : RingTo w w' r bo D (ents xs) :=
  ⟨xs, D, h.kpn hk, rfl, fun _ h => .inl h, hk.mono fun _ h => h.elim⟩
/-- An entry held so often; one with another key. -/
def wh (x : En) (n : Nat) : En := ⟨x.p, x.ka, x.kc, { x.e with holds := n }⟩
def wk (x : En) (ka : Option Addr) (kc : Nat) (key : List UInt8) : En := ⟨x.p, ka, kc, { x.e with key := key }⟩
/-- An entry's number stored. -/
theorem holds_eff {w w' : World} {x : En} {n : Nat} (h : EnAt w x) (e : Eff w w' x.p (.cells ((enCells x).set 17 (.int .i64 (n : Int))).toArray 137 (0, 0))) (hn : n ≤ 1000000) : EnAt w' (wh x n) ∧ Kp (fun j => j = x.p) w w' := by
  rw [en_set17 h] at e
  have k : Kp (fun j => j = x.p) w w' := e.kp (.inl rfl)
  exact ⟨⟨e.blk, h.key.kp k fun c hc e => by obtain ⟨_, hB⟩ := h.key.blk_of hc; exact hB.ne h.row (by decide) e, h.id, hn⟩, k⟩
/-- Those that can be held more often. -/
def Room (L : Ring) : Prop := ∀ e ∈ L, e.holds < 1000000
set_option maxRecDepth 100000 in
set_option maxHeartbeats 1000000 in
theorem hold_calls (xs : List En) (id : List UInt8) (r bo : Nat) (w : World) {D : Nat → Prop} (hR : RingAt w r bo xs D) (hs : Sorted (ents xs)) (hi : id.length = 16) (hm : Room (ents xs)) :
    Calls Tryd.prog 36 #[.pointer (some ⟨r, 0, none⟩), .agg (ints .u8 (bs8 id)).toArray] w
      fun e w' => e = .returned (.int .i64 (if stat id (ents xs) = 1 then 0 else 16)) ∧ RingTo w w' r bo D (if stat id (ents xs) = 1 then hold id (ents xs) else ents xs) := by
  refine calls_at (n := 18) Tryd.func36 rfl rfl (by simp) ?_
  (refine At_seq ?_; refine At_region ?_)
  refine AtR_go rfl (AtG_box rfl fun b w1 hb e1 => ?_)
  have B1 : Blk w1 b 22 (0, 0) (ints .u8 (bs8 id)) := e1.blk
  have K1 : Kp No w w1 := e1.kp (.inr (by omega))
  clear e1
  (refine s_as ?_; refine AtR_nil ?_; refine At_seq ?_; refine At_seq ?_; refine At_region ?_; refine s_mv ?_)
  refine s_val (x_load_all rfl B1 (by simp [hi])) ?_
  refine s_call x_call (status_calls xs id r bo _ (hR.kpn K1) hs hi) ?_
  rintro _ w2 ⟨rfl, k2⟩
  refine ⟨_, rfl, ?_⟩
  have K2 := K1.trans k2
  by_cases hst : stat id (ents xs) = 1
  · rw [if_pos hst, if_pos hst]
    obtain ⟨hh, hk⟩ := stat_one.1 hst
    (refine s_neq ?_; refine AtR_nil ?_; refine At_cond_f rfl ?_; refine At_skip ?_; refine At_seq ?_; refine At_region ?_; refine s_mv ?_)
    refine s_val (x_load_all rfl (B1.kp k2 fun h => h) (by simp [hi])) ?_
    refine s_call x_call (of_calls xs id r bo _ (hR.kpn K2) hs hi) ?_
    rintro _ w3 ⟨rfl, k3⟩
    refine ⟨_, rfl, ?_⟩
    rw [if_pos hh]
    have K3 := K2.trans k3
    have hR3 := hR.kpn K3
    obtain ⟨hl, hee⟩ := enOf_ent hh
    obtain ⟨hE, hd1, hd2⟩ := hR3.en _ (enOf_mem hh)
    have hrow := hE.row
    have hlen := en_len hE
    have hm1 := hm _ (ent_mem hh)
    rw [← hee] at hm1
    change (enOf id xs).e.holds < 1000000 at hm1
    (refine s_nc ?_; refine s_fa ?_)
    refine s_val (x_load1 rfl hrow (en17 hE)) ?_
    (refine s_ad ?_; refine s_nc ?_; refine s_fa ?_)
    refine AtR_go rfl (G_skip (r_store1 (v := .int .i64 (((enOf id xs).e.holds : Int) + 1)) rfl rfl hrow (by omega) rfl rfl) fun w4 e4 => ?_)
    obtain ⟨hy, k4⟩ := holds_eff (n := (enOf id xs).e.holds + 1) hE e4 hm1
    (refine AtR_nil ?_; refine At_seq ?_; refine At_region ?_; refine s_as ?_; refine AtR_nil ?_)
    refine At_ret1 Tryd.func36 rfl (by conv => lhs; whnf) ?_
    refine ⟨rfl, _, _, hR3.set (i := pos id (ents xs)) (y := wh (enOf id xs) ((enOf id xs).e.holds + 1)) hl k4 (fun j hj => .inl hj) rfl hy (fun c hc => .inl hc), ?_, ?_, ?_⟩
    · rw [ents_set]; unfold Kr.hold; rw [← hee]; rfl
    · rintro j (h | h)
      · exact .inl h
      · right; have := K3.size; omega
    · exact (K3.mono fun _ h => h.elim).trans (k4.mono fun j hj => by subst hj; exact hd1)
  · rw [if_neg hst, if_neg hst]
    (refine s_neq ?_; refine AtR_nil ?_; refine At_cond_t rfl ?_; refine At_seq ?_; refine At_region ?_; refine s_as ?_; refine AtR_nil ?_)
    refine At_ret1 Tryd.func36 rfl (by conv => lhs; whnf) ?_
    exact ⟨rfl, ringTo_same hR K2⟩
theorem ents_drop {xs : List En} {i : Nat} (y : En) {b : Prop} [Decidable b] (hb : b ↔ y.e.holds = 0 ∧ y.e.key = []) : ents (if b then (xs.set i y).eraseIdx i else xs.set i y) = Kr.drop i y.e (ents xs) := by
  unfold Kr.drop
  by_cases h : b
  · rw [if_pos h, if_pos (hb.1 h), ents_erase, ents_set]
    apply List.ext_getElem?
    intro k
    simp only [List.getElem?_eraseIdx, List.getElem?_set]
    split
    · rw [if_neg (by omega)]
    · rw [if_neg (by omega)]
  · rw [if_neg h, if_neg (fun h' => h (hb.2 h')), ents_set]
theorem getD_set_self {xs : List En} {i : Nat} (h : i < xs.length) (y : En) : (xs.set i y).getD i default = y := by simp [List.getD, h]
/-- One entry turned, then dropped if nothing is left of it. -/
theorem drop_after {w w1 w2 : World} {r bo : Nat} {xs : List En} {i : Nat} {D S : Nat → Prop} {y : En} (h : RingAt w r bo xs D) (hi : i < xs.length) (hk : Kp S w w1) (hS : ∀ j, S j → j = (xs.getD i default).p ∨ blkOf (xs.getD i default).ka j)
    (hr : RingAt w2 r bo (if y.e.holds = 0 ∧ y.e.key = [] then (xs.set i y).eraseIdx i else xs.set i y) (fun j => D j ∨ (w.heap.size ≤ j ∧ j < w1.heap.size))) (hk2 : Kp (fun j => D j ∨ (w.heap.size ≤ j ∧ j < w1.heap.size)) w1 w2) :
    RingTo w w2 r bo D (Kr.drop i y.e (ents xs)) := by
  obtain ⟨_, hd1, hd2⟩ := h.en _ (mem_getD hi)
  refine ⟨_, _, hr, ents_drop y Iff.rfl, fun j hj => hj.imp (fun h => h) fun h => h.1, ?_⟩
  refine (hk.mono fun j hj => ?_).trans' hk2 fun j hj => hj.imp (fun h => h) fun h => h.1
  rcases hS j hj with rfl | hj
  · exact hd1
  · exact hd2 j hj
set_option maxRecDepth 100000 in
set_option maxHeartbeats 1000000 in
theorem release_calls (xs : List En) (id : List UInt8) (r bo : Nat) (w : World) {D : Nat → Prop} (hR : RingAt w r bo xs D) (hs : Sorted (ents xs)) (hi : id.length = 16) :
    Calls Tryd.prog 37 #[.pointer (some ⟨r, 0, none⟩), .agg (ints .u8 (bs8 id)).toArray] w
      fun e w' => e = .returned (.int .i64 (if hit id (ents xs) = true ∧ 0 < (ent id (ents xs)).holds then 0 else 14)) ∧ RingTo w w' r bo D (if hit id (ents xs) = true ∧ 0 < (ent id (ents xs)).holds then release id (ents xs) else ents xs) := by
  refine calls_at (n := 28) Tryd.func37 rfl rfl (by simp) ?_
  (refine At_seq ?_; refine At_region ?_)
  refine AtR_go rfl (AtG_box rfl fun b w1 hb e1 => ?_)
  have B1 : Blk w1 b 22 (0, 0) (ints .u8 (bs8 id)) := e1.blk
  have K1 : Kp No w w1 := e1.kp (.inr (by omega))
  clear e1
  (refine s_as ?_; refine AtR_nil ?_; refine At_seq ?_; refine At_region ?_; refine s_mv ?_)
  refine s_val (x_load_all rfl B1 (by simp [hi])) ?_
  refine s_call x_call (of_calls xs id r bo _ (hR.kpn K1) hs hi) ?_
  rintro _ w3 ⟨rfl, k3⟩
  refine ⟨_, rfl, ?_⟩
  have K3 := K1.trans k3
  cases hh : hit id (ents xs) with
  | false =>
    simp only [Bool.false_eq_true, if_false, false_and]
    (refine s_as ?_; refine AtR_nil ?_; refine At_seq ?_; refine At_seq ?_; refine At_region ?_; refine s_mv ?_; refine s_eqln ?_; refine s_mv ?_; refine s_no rfl rfl rfl rfl ?_; refine s_no rfl rfl rfl rfl ?_; refine s_no rfl rfl rfl rfl ?_; refine s_no rfl rfl rfl rfl ?_; refine s_no rfl rfl rfl rfl ?_; refine s_pt ?_; refine AtR_nil ?_; refine At_cond_t rfl ?_; refine At_seq ?_; refine At_region ?_; refine s_as ?_; refine AtR_nil ?_)
    refine At_ret1 Tryd.func37 rfl (by conv => lhs; whnf) ?_
    exact ⟨rfl, ringTo_same hR K3⟩
  | true =>
    simp only [if_true, true_and]
    have hR3 := hR.kpn K3
    obtain ⟨hl, hee⟩ := enOf_ent hh
    obtain ⟨hE, hd1, hd2⟩ := hR3.en _ (enOf_mem hh)
    have hrow := hE.row
    have hlen := en_len hE
    rw [← hee]
    change EnAt w3 (xs.getD (pos id (ents xs)) default) at hE
    have hfew := hE.few
    obtain ⟨x, hx⟩ : ∃ x, x = xs.getD (pos id (ents xs)) default := ⟨_, rfl⟩
    change Blk w3 (xs.getD (pos id (ents xs)) default).p 137 (0, 0) (enCells (xs.getD (pos id (ents xs)) default)) at hrow
    rw [show enOf id xs = x from hx.symm] at hlen ⊢
    rw [← hx] at hE hrow hfew ⊢
    (refine s_as ?_; refine AtR_nil ?_; refine At_seq ?_; refine At_seq ?_; refine At_region ?_; refine s_mv ?_; refine s_eqlp ?_; refine s_mv ?_; refine s_yes rfl rfl rfl rfl ?_; refine g_mv ?_; refine s_yes rfl rfl rfl rfl ?_; refine g_nc ?_; refine s_yes rfl rfl rfl rfl ?_; refine g_fa ?_)
    refine s_yes rfl rfl rfl rfl (g_val (x_load1 rfl hrow (en17 hE)) ?_)
    by_cases h0 : 0 < x.e.holds
    · rw [if_pos h0, if_pos h0]
      (refine s_yes rfl rfl rfl rfl ?_; refine g_eql ?_; refine s_pf ?_; refine AtR_nil ?_; refine At_cond_f rfl ?_; refine At_skip ?_; refine At_seq ?_; refine At_region ?_; refine s_mv ?_; refine s_nc ?_; refine s_fa ?_)
      refine s_val (x_load1 rfl hrow (en17 hE)) ?_
      (refine s_sb ?_; refine s_nc ?_; refine s_fa ?_)
      refine AtR_go rfl (G_skip (r_store1 (v := .int .i64 ((x.e.holds : Int) - 1)) rfl rfl hrow (by omega) rfl rfl) fun w4 e4 => ?_)
      rw [show ((x.e.holds : Int) - 1) = ((x.e.holds - 1 : Nat) : Int) by omega] at e4
      obtain ⟨hy, k4⟩ := holds_eff (n := x.e.holds - 1) hE e4 (by omega)
      have hR4 := hR3.set (i := pos id (ents xs)) (y := wh x (x.e.holds - 1)) hl k4 (fun j hj => .inl (by rw [← hx]; exact hj)) (by rw [← hx]; rfl) hy (fun c hc => .inl (by rw [← hx]; exact hc))
      have hg := getD_set_self hl (wh x (x.e.holds - 1))
      have hdc := drop_calls _ (pos id (ents xs)) r bo _ hR4 (by simpa using hl)
      rw [hg] at hdc
      (refine AtR_nil ?_; refine At_seq ?_; refine At_region ?_; refine s_mv ?_; refine s_mv ?_)
      refine s_call x_call hdc ?_
      rintro _ w5 ⟨rfl, hR5, k5, _⟩
      refine ⟨_, rfl, ?_⟩
      (refine AtR_nil ?_; refine At_seq ?_; refine At_region ?_; refine s_as ?_; refine AtR_nil ?_)
      refine At_ret1 Tryd.func37 rfl (by conv => lhs; whnf) ?_
      refine ⟨rfl, ?_⟩
      obtain ⟨xs', D', q1, q2, q3, q4⟩ := drop_after hR3 hl k4 (fun j hj => .inl (by rw [← hx]; exact hj)) hR5 k5
      refine ⟨xs', D', q1, ?_, fun j hj => (q3 j hj).imp (fun h => h) fun h => Nat.le_trans K3.size h, (K3.mono fun _ h => h.elim).trans q4⟩
      rw [q2]; unfold Kr.release; rw [← hee, ← hx]; rfl
    · rw [if_neg h0, if_neg h0]
      (refine s_yes rfl rfl rfl rfl ?_; refine g_eql ?_; refine s_pf ?_; refine AtR_nil ?_; refine At_cond_t rfl ?_; refine At_seq ?_; refine At_region ?_; refine s_as ?_; refine AtR_nil ?_)
      refine At_ret1 Tryd.func37 rfl (by conv => lhs; whnf) ?_
      exact ⟨rfl, ringTo_same hR K3⟩
end Go.Proofs.YtfngacepjcdlnaaDoor

namespace Go.Proofs.YtfngacepjcdlnaaDoor
open Go Go.Kx Go.Kr
set_option maxRecDepth 100000 in
set_option maxHeartbeats 1000000 in
theorem remove_calls (xs : List En) (id : List UInt8) (r bo : Nat) (w : World) {D : Nat → Prop} (hR : RingAt w r bo xs D) (hs : Sorted (ents xs)) (hi : id.length = 16) :
    Calls Tryd.prog 35 #[.pointer (some ⟨r, 0, none⟩), .agg (ints .u8 (bs8 id)).toArray] w
      fun e w' => e = .returned (.tuple #[.bool (decide (stat id (ents xs) = 1 ∧ 0 < (ent id (ents xs)).holds)), .int .i64 (if stat id (ents xs) = 1 then 0 else 14)]) ∧ RingTo w w' r bo D (if stat id (ents xs) = 1 then remove id (ents xs) else ents xs) := by
  refine calls_at (n := 24) Tryd.func35 rfl rfl (by simp) ?_
  (refine At_seq ?_; refine At_region ?_)
  refine AtR_go rfl (AtG_box rfl fun b w1 hb e1 => ?_)
  have B1 : Blk w1 b 22 (0, 0) (ints .u8 (bs8 id)) := e1.blk
  have K1 : Kp No w w1 := e1.kp (.inr (by omega))
  clear e1
  (refine s_as ?_; refine s_as ?_; refine AtR_nil ?_; refine At_seq ?_; refine At_seq ?_; refine At_region ?_; refine s_mv ?_)
  refine s_val (x_load_all rfl B1 (by simp [hi])) ?_
  refine s_call x_call (status_calls xs id r bo _ (hR.kpn K1) hs hi) ?_
  rintro _ w2 ⟨rfl, k2⟩
  refine ⟨_, rfl, ?_⟩
  have K2 := K1.trans k2
  by_cases hst : stat id (ents xs) = 1
  · rw [if_pos hst, if_pos hst]
    obtain ⟨hh, hk⟩ := stat_one.1 hst
    (refine s_neq ?_; refine AtR_nil ?_; refine At_cond_f rfl ?_; refine At_skip ?_; refine At_seq ?_; refine At_region ?_; refine s_mv ?_)
    refine s_val (x_load_all rfl (B1.kp k2 fun h => h) (by simp [hi])) ?_
    refine s_call x_call (of_calls xs id r bo _ (hR.kpn K2) hs hi) ?_
    rintro _ w3 ⟨rfl, k3⟩
    refine ⟨_, rfl, ?_⟩
    rw [if_pos hh]
    have K3 := K2.trans k3
    have hR3 := hR.kpn K3
    obtain ⟨hl, hee⟩ := enOf_ent hh
    obtain ⟨hE, hd1, hd2⟩ := hR3.en _ (enOf_mem hh)
    rw [← hee]
    obtain ⟨x, hx⟩ : ∃ x, x = xs.getD (pos id (ents xs)) default := ⟨_, rfl⟩
    rw [show enOf id xs = x from hx.symm] at hE ⊢
    rw [← hx]
    (refine s_as ?_; refine AtR_nil ?_; refine At_seq ?_; refine At_region ?_; refine s_mv ?_)
    refine s_call x_call (wipe_calls x _ hE) ?_
    rintro _ w4 ⟨rfl, hy, k4⟩
    refine ⟨_, rfl, ?_⟩
    change EnAt w4 (wk x none 0 []) at hy
    have hS : ∀ j, (j = x.p ∨ blkOf x.ka j) → j = (xs.getD (pos id (ents xs)) default).p ∨ blkOf (xs.getD (pos id (ents xs)) default).ka j := fun j hj => by rw [← hx]; exact hj
    have hR4 := hR3.set (i := pos id (ents xs)) (y := wk x none 0 []) hl k4 hS (by rw [← hx]; rfl) hy (fun c hc => by simp [wk, blkOf] at hc)
    have hg := getD_set_self hl (wk x none 0 [])
    have hdc := drop_calls _ (pos id (ents xs)) r bo _ hR4 (by simpa using hl)
    rw [hg] at hdc
    (refine AtR_nil ?_; refine At_seq ?_; refine At_region ?_; refine s_mv ?_; refine s_mv ?_)
    refine s_call x_call hdc ?_
    rintro _ w5 ⟨rfl, hR5, k5, hy5⟩
    refine ⟨_, rfl, ?_⟩
    have hrow := hy5.row
    have l17 := en17 hy5
    change Blk w5 x.p 137 (0, 0) _ at hrow
    (refine AtR_nil ?_; refine At_seq ?_; refine At_region ?_; refine s_mv ?_; refine s_nc ?_; refine s_fa ?_)
    refine s_val (x_load1 rfl hrow l17) ?_
    refine s_val (x_gtr rfl rfl) ?_
    (refine s_as ?_; refine s_as ?_; refine AtR_nil ?_)
    refine At_ret2 Tryd.func35 rfl (by conv => lhs; whnf) (by conv => lhs; whnf) ?_
    refine ⟨?_, ?_⟩
    · congr 5
      simp only [hst, true_and, wk]
      by_cases h : 0 < x.e.holds
      · exact (decide_eq_true (by omega)).trans (decide_eq_true h).symm
      · exact (decide_eq_false (by omega)).trans (decide_eq_false h).symm
    · obtain ⟨xs', D', q1, q2, q3, q4⟩ := drop_after hR3 hl k4 hS hR5 k5
      refine ⟨xs', D', q1, ?_, fun j hj => (q3 j hj).imp (fun h => h) fun h => Nat.le_trans K3.size h, (K3.mono fun _ h => h.elim).trans q4⟩
      rw [q2]; unfold Kr.remove; rw [← hee, ← hx]; rfl
  · rw [if_neg hst, if_neg hst]
    (refine s_neq ?_; refine AtR_nil ?_; refine At_cond_t rfl ?_; refine At_seq ?_; refine At_region ?_; refine s_as ?_; refine s_as ?_; refine AtR_nil ?_)
    refine At_ret2 Tryd.func35 rfl (by conv => lhs; whnf) (by conv => lhs; whnf) ?_
    exact ⟨by rw [decide_eq_false (fun h => hst h.1)], ringTo_same hR K2⟩
set_option maxRecDepth 100000 in
theorem derive_no (bo : Nat) (v : Value) (c : UInt8) (vi : Value) (n : Int) (w : World) (hn : n < 0 ∨ 16320 < n) :
    Calls Tryd.prog 66 #[.pointer (some ⟨bo, 0, none⟩), v, .int .u8 (ub c), vi, .int .i64 n] w fun e w' => e = .returned (.tuple #[.slice none 0 0, .bool false]) ∧ w = w' := by
  refine calls_at (n := 55) Tryd.func66 rfl rfl (by simp) ?_
  by_cases h0 : n < 0
  · (refine At_seq ?_; refine At_region ?_; refine s_as ?_; refine s_as ?_; refine AtR_nil ?_; refine At_seq ?_; refine At_seq ?_; refine At_region ?_; refine s_mv ?_; refine s_lss ?_; refine s_mv ?_; refine s_no rfl rfl rfl rfl ?_; refine s_no rfl rfl rfl rfl ?_; refine s_pt ?_; refine AtR_nil ?_; refine At_cond_t rfl ?_; refine At_seq ?_; refine At_region ?_; refine s_as ?_; refine s_as ?_; refine AtR_nil ?_)
    refine At_ret2 Tryd.func66 rfl (by conv => lhs; whnf) (by conv => lhs; whnf) ?_
    exact ⟨rfl, rfl⟩
  · (refine At_seq ?_; refine At_region ?_; refine s_as ?_; refine s_as ?_; refine AtR_nil ?_; refine At_seq ?_; refine At_seq ?_; refine At_region ?_; refine s_mv ?_; refine s_lss ?_; refine s_mv ?_; refine s_yes rfl rfl rfl rfl ?_; refine g_mv ?_; refine s_yes rfl rfl rfl rfl ?_; refine g_gtr ?_; refine s_pf ?_; refine AtR_nil ?_; refine At_cond_t rfl ?_; refine At_seq ?_; refine At_region ?_; refine s_as ?_; refine s_as ?_; refine AtR_nil ?_)
    refine At_ret2 Tryd.func66 rfl (by conv => lhs; whnf) (by conv => lhs; whnf) ?_
    exact ⟨rfl, rfl⟩
theorem z129_eq : z129 = .pointer none :: [.int .i64 0, .map none, .bool false] := rfl
set_option maxRecDepth 100000 in
set_option maxHeartbeats 1000000 in
theorem ringDerive_calls (xs : List En) (id : List UInt8) (r bo : Nat) (c : UInt8) (info : List UInt8) (n : Int) (ai : Option Addr) (leni capi : Nat) (w : World) {D D' : Nat → Prop} (hR : RingAt w r bo xs D) (hs : Sorted (ents xs)) (hi : id.length = 16) (hk64 : ∀ e ∈ ents xs, e.key.length ≤ 64)
    (hinf : SlE w .u8 ai leni capi (bs8 info) D') (hbi : leni ≤ 17592186043000) :
    Calls Tryd.prog 34 #[.pointer (some ⟨r, 0, none⟩), .agg (ints .u8 (bs8 id)).toArray, .int .u8 (ub c), .slice ai leni capi, .int .i64 n] w
      fun e w' => Kp No w w' ∧ if stat id (ents xs) = 1 then (if 0 ≤ n ∧ n ≤ 16320 then ∃ a' cap', e = .returned (.tuple #[.slice a' n.toNat cap', .int .i64 0]) ∧ Own w' 5 1 a' n.toNat cap' (ints .u8 (bs8 (derive (ent id (ents xs)).key c info n.toNat))) ∧ (∀ j, blkOf a' j → w.heap.size ≤ j)
        else e = .returned (.tuple #[.slice none 0 0, .int .i64 2])) else e = .returned (.tuple #[.slice none 0 0, .int .i64 16]) := by
  refine calls_at (n := 38) Tryd.func34 rfl rfl (by simp) ?_
  (refine At_seq ?_; refine At_region ?_)
  refine AtR_go rfl (AtG_box rfl fun b w1 hb e1 => ?_)
  have B1 : Blk w1 b 22 (0, 0) (ints .u8 (bs8 id)) := e1.blk
  have K1 : Kp No w w1 := e1.kp (.inr (by omega))
  clear e1
  (refine s_as ?_; refine s_as ?_; refine AtR_nil ?_; refine At_seq ?_; refine At_seq ?_; refine At_region ?_; refine s_mv ?_)
  refine s_val (x_load_all rfl B1 (by simp [hi])) ?_
  refine s_call x_call (status_calls xs id r bo _ (hR.kpn K1) hs hi) ?_
  rintro _ w2 ⟨rfl, k2⟩
  refine ⟨_, rfl, ?_⟩
  have K2 := K1.trans k2
  by_cases hst : stat id (ents xs) = 1
  · obtain ⟨hh, hk⟩ := stat_one.1 hst
    obtain ⟨hl, hee⟩ := enOf_ent hh
    have hke := hk64 _ (ent_mem hh)
    rw [← hee] at hke ⊢
    obtain ⟨x, hx⟩ : ∃ x, x = xs.getD (pos id (ents xs)) default := ⟨_, rfl⟩
    rw [← hx] at hke ⊢
    (refine s_neq ?_; refine AtR_nil ?_; refine At_cond_f rfl ?_; refine At_skip ?_; refine At_seq ?_)
    have kd := Kp.drew (S := No) (w := w2)
    have KD := K2.trans kd
    have hRd := hR.kpn KD
    obtain ⟨a, cap, R1, hO, _⟩ := hRd.es
    have B2 := (B1.kp k2 fun h => h).kp kd fun h => h
    have hEd := (hRd.en x (by rw [hx]; exact mem_getD hl)).1
    let S : World → Prop := fun w' => Blk w' r 125 (0, 0) [.pointer (some ⟨bo, 0, none⟩), .slice a xs.length cap] ∧ Blk w' b 22 (0, 0) (ints .u8 (bs8 id)) ∧ Blk w' x.p 137 (0, 0) (enCells x)
    have hSk : ∀ {w w'}, S w → Kp No w w' → S w' := fun h k => ⟨h.1.kp k fun h => h, h.2.1.kp k fun h => h, h.2.2.kp k fun h => h⟩
    refine At_draw S rfl ?_
    have hS : S w2.drew := ⟨R1, B2, hEd.row⟩
    (apply AtH_take 0 rfl (by decide +kernel) (by exact rfl); (focus (intro wx hx; skip; exact x_move (by conv => lhs; whnf))); (focus (exact hS)))
    (apply AtH_take 1 rfl (by decide +kernel) (by exact rfl); (focus (intro wx hx; skip; exact x_nilCheck rfl)); (focus (exact hS)))
    (apply AtH_take 2 rfl (by decide +kernel) (by exact rfl); (focus (intro wx hx; skip; exact x_fieldAddrN rfl (by first | exact Nat.zero_add _ | exact Nat.add_zero _ | (simp only [Nat.reduceAdd] <;> rfl) | exact rfl))); (focus (exact hS)))
    (apply AtH_take 4 rfl (by decide +kernel) (by exact rfl); (focus (intro wx hx; skip; exact x_move (by conv => lhs; whnf))); (focus (exact hS)))
    (apply AtH_take 10 rfl (by decide +kernel) (by exact rfl); (focus (intro wx hx; skip; exact x_move (by conv => lhs; whnf))); (focus (exact hS)))
    (apply AtH_take 11 rfl (by decide +kernel) (by exact rfl); (focus (intro wx hx; skip; exact x_move (by conv => lhs; whnf))); (focus (exact hS)))
    (apply AtH_take 12 rfl (by decide +kernel) (by exact rfl); (focus (intro wx hx; skip; exact x_move (by conv => lhs; whnf))); (focus (exact hS)))
    -- ready now: 3 load 29 t21, 5 load 22 t6
    refine AtH_take 3 rfl (by decide +kernel) rfl (fun wx hx => x_load1 rfl hx.1 rfl) hS ?_
    refine AtH_take 5 rfl (by decide +kernel) rfl (fun wx hx => x_load_all rfl hx.2.1 (by simp [hi])) hS ?_
    refine AtH_call 6 rfl (by decide +kernel) (by exact rfl) x_call  (of_calls xs id r bo _ hRd hs hi) ?_
    rintro _ w3 ⟨rfl, k3⟩
    rw [if_pos hh, show enOf id xs = x from hx.symm]
    have hS3 := hSk hS k3
    refine ⟨_, rfl, hS3, ?_⟩
    clear hS
    have hS := hS3
    have K3 := KD.trans k3
    (apply AtH_take 7 rfl (by decide +kernel) (by exact rfl); (focus (intro wx hx; skip; exact x_nilCheck rfl)); (focus (exact hS)))
    (apply AtH_take 8 rfl (by decide +kernel) (by exact rfl); (focus (intro wx hx; skip; exact x_fieldAddrN rfl (by first | exact Nat.zero_add _ | exact Nat.add_zero _ | (simp only [Nat.reduceAdd] <;> rfl) | exact rfl))); (focus (exact hS)))
    -- ready now: 9 load 31 t27
    refine AtH_take 9 rfl (by decide +kernel) rfl (fun wx hx => x_load1 rfl hx.2.2 (en16 hEd)) hS ?_
    -- ready now: 13 call f66(t22, t28, t29, t30, t31)
    have hR3 := hR.kpn K3
    have hE3 := (hR3.en x (by rw [hx]; exact mem_getD hl)).1
    obtain ⟨fz, hc⟩ := hR3.con
    by_cases hn : 0 ≤ n ∧ n ≤ 16320
    · obtain ⟨m, rfl⟩ : ∃ m : Nat, n = (m : Int) := ⟨n.toNat, by omega⟩
      refine AtH_call 13 rfl (by decide +kernel) (by exact rfl) x_call  (deriveP_calls sumOk bo x.e.key c info m x.ka _ x.kc ai leni capi _ (D := fun _ => True) (by have := hR3.ob; rw [z129_eq] at this; exact this) (hE3.key.sl.e fun _ _ => trivial) (hinf.kpn K3) (by omega) (by omega) (by omega) hc) ?_
      rintro _ w4 ⟨a', cap', rfl, ho4, hf4, k4⟩
      have hS4 := hSk hS k4
      refine ⟨_, rfl, hS4, ?_⟩
      clear hS
      have hS := hS4
      (apply AtH_take 14 rfl (by decide +kernel) (by exact rfl); (focus (intro wx hx; skip; exact x_move (by conv => lhs; whnf))); (focus (exact hS)))
      (apply AtH_take 15 rfl (by decide +kernel) (by exact rfl); (focus (intro wx hx; skip; exact x_extract rfl rfl)); (focus (exact hS)))
      (apply AtH_take 16 rfl (by decide +kernel) (by exact rfl); (focus (intro wx hx; skip; exact x_extract rfl rfl)); (focus (exact hS)))
      (apply AtH_take 17 rfl (by decide +kernel) (by exact rfl); (focus (intro wx hx; skip; exact x_assign (by conv => lhs; whnf))); (focus (exact hS)))
      (apply AtH_take 18 rfl (by decide +kernel) (by exact rfl); (focus (intro wx hx; skip; exact x_assign (by conv => lhs; whnf))); (focus (exact hS)))
      refine AtH_done (by decide +kernel) ?_
      (refine At_seq ?_; refine At_seq ?_; refine At_region ?_; refine s_mv ?_; refine s_nt ?_; refine AtR_nil ?_; refine At_cond_f rfl ?_; refine At_skip ?_; refine At_seq ?_; refine At_region ?_; refine s_mv ?_; refine s_as ?_; refine s_as ?_; refine AtR_nil ?_)
      refine At_ret2 Tryd.func34 rfl (by conv => lhs; whnf) (by conv => lhs; whnf) ?_
      refine ⟨K3.trans k4, ?_⟩
      rw [if_pos hst, if_pos hn]
      exact ⟨a', cap', rfl, ho4, fun j hj => Nat.le_trans K3.size (hf4 j hj)⟩
    · refine AtH_call 13 rfl (by decide +kernel) (by exact rfl) x_call  (derive_no bo _ c _ n _ (by omega)) ?_
      rintro _ w4 ⟨rfl, rfl⟩
      refine ⟨_, rfl, hS, ?_⟩
      (apply AtH_take 14 rfl (by decide +kernel) (by exact rfl); (focus (intro wx hx; skip; exact x_move (by conv => lhs; whnf))); (focus (exact hS)))
      (apply AtH_take 15 rfl (by decide +kernel) (by exact rfl); (focus (intro wx hx; skip; exact x_extract rfl rfl)); (focus (exact hS)))
      (apply AtH_take 16 rfl (by decide +kernel) (by exact rfl); (focus (intro wx hx; skip; exact x_extract rfl rfl)); (focus (exact hS)))
      (apply AtH_take 17 rfl (by decide +kernel) (by exact rfl); (focus (intro wx hx; skip; exact x_assign (by conv => lhs; whnf))); (focus (exact hS)))
      (apply AtH_take 18 rfl (by decide +kernel) (by exact rfl); (focus (intro wx hx; skip; exact x_assign (by conv => lhs; whnf))); (focus (exact hS)))
      refine AtH_done (by decide +kernel) ?_
      (refine At_seq ?_; refine At_seq ?_; refine At_region ?_; refine s_mv ?_; refine s_nt ?_; refine AtR_nil ?_; refine At_cond_t rfl ?_; refine At_seq ?_; refine At_region ?_; refine s_as ?_; refine s_as ?_; refine AtR_nil ?_)
      refine At_ret2 Tryd.func34 rfl (by conv => lhs; whnf) (by conv => lhs; whnf) ?_
      refine ⟨K3, ?_⟩
      rw [if_pos hst, if_neg hn]
  · (refine s_neq ?_; refine AtR_nil ?_; refine At_cond_t rfl ?_; refine At_seq ?_; refine At_region ?_; refine s_as ?_; refine s_as ?_; refine AtR_nil ?_)
    refine At_ret2 Tryd.func34 rfl (by conv => lhs; whnf) (by conv => lhs; whnf) ?_
    refine ⟨K2, ?_⟩
    rw [if_neg hst]
end Go.Proofs.YtfngacepjcdlnaaDoor

namespace Go.Proofs.YtfngacepjcdlnaaDoor
open Go Go.Kx Go.Kr
theorem built22 : Tryd.prog.built 22 [] = some z22.toArray := by kernel_rfl
theorem z22_eq : z22 = ints .u8 (bs8 (List.replicate 16 0)) := rfl
theorem built137 (v : List (Nat × Value)) : Tryd.prog.built 137 v = Instr.fill (#[(0, 16), (16, 1), (17, 1)][·]?) z137.toArray v := by kernel_rfl
theorem built137_id {id : List UInt8} (hi : id.length = 16) : Tryd.prog.built 137 [(0, .agg (ints .u8 (bs8 id)).toArray)] = some (ints .u8 (bs8 id) ++ [Value.slice none 0 0, Value.int .i64 0]).toArray := by
  rw [built137, fill_agg (i := 0) (off := 0) (s := 16) rfl (by simp [hi]) (by simp [z137])]
  have e : lay z137 0 (ints .u8 (bs8 id)) = ints .u8 (bs8 id) ++ [Value.slice none 0 0, Value.int .i64 0] := by
    unfold lay z137
    rw [show 0 + (ints .u8 (bs8 id)).length = 16 by simp [hi]]
    simp
  rw [e]; rfl
theorem ents_insert (xs : List En) (i : Nat) (y : En) : ents (xs.take i ++ y :: xs.drop i) = (ents xs).take i ++ y.e :: (ents xs).drop i := by simp [ents, List.map_take, List.map_drop]
theorem getD_insert {xs : List En} {i : Nat} (y : En) (h : i ≤ xs.length) : (xs.take i ++ y :: xs.drop i).getD i default = y := by
  have hl : (xs.take i).length = i := by simp; omega
  rw [List.getD, List.getElem?_append_right (by omega), hl]; simp
/-- A new entry laid, its pointer put among the others. -/
theorem RingAt.insert {w w' : World} {r bo : Nat} {xs : List En} {D S : Nat → Prop} {i cap' : Nat} {a' : Option Addr} {y : En} (h : RingAt w r bo xs D) (hi : i ≤ xs.length) (hx : xs.length < 16) (hk : Kp S w w') (hS : ∀ j, S j → ∃ cs E, Blk w j E (0, 0) cs ∧ (E = 125 ∨ E = 135))
    (R : Blk w' r 125 (0, 0) [.pointer (some ⟨bo, 0, none⟩), .slice a' (xs.length + 1) cap']) (hO : Own w' 135 1 a' (xs.length + 1) cap' (xs.map ptrE |>.take i |>.append (ptrE y :: (xs.map ptrE).drop i))) (ha : ∀ j, blkOf a' j → D j ∨ w.heap.size ≤ j)
    (hy : EnAt w' y) (hp : w.heap.size ≤ y.p) (hyk : y.ka = none) : RingAt w' r bo (xs.take i ++ y :: xs.drop i) (fun j => D j ∨ (w.heap.size ≤ j ∧ j < w'.heap.size)) := by
  obtain ⟨fz, hc⟩ := h.con
  have hz := hk.size
  have hno : ∀ {b : Nat} {E : TypeId} {fz : Nat × Nat} {cs : List Value}, Blk w b E fz cs → E ≠ 125 → E ≠ 135 → ¬ S b := by
    intro b E fz cs hB h1 h2 hs
    obtain ⟨cs', E', hB', hE⟩ := hS b hs
    rcases hE with rfl | rfl
    · exact hB.ne hB' h1 rfl
    · exact hB.ne hB' h2 rfl
  have hlen : (xs.take i ++ y :: xs.drop i).length = xs.length + 1 := by simp; omega
  refine ⟨⟨a', cap', by rw [hlen]; exact R, ?_, fun j hj => ?_⟩, h.ob.kp hk (hno h.ob (by decide) (by decide)), ⟨fz, hc.kp hk (hno hc (by decide) (by decide))⟩, ?_, ?_, .inl h.dr, fun x hx' => ?_, ?_, by rw [hlen]; omega, fun j hj => ?_⟩
  · rw [hlen]
    have e : (xs.take i ++ y :: xs.drop i).map ptrE = (xs.map ptrE |>.take i |>.append (ptrE y :: (xs.map ptrE).drop i)) := by
      rw [List.map_append, List.map_cons, List.map_take, List.map_drop]; rfl
    rw [e]; exact hO
  · rcases ha j hj with h1 | h1
    · exact .inl h1
    · exact .inr ⟨h1, hO.lt j hj⟩
  · rintro (h1 | h1)
    · exact h.nob h1
    · have := h.ob.lt; omega
  · rintro (h1 | h1)
    · exact h.ncon h1
    · have := hc.lt; omega
  · have hold : ∀ x ∈ xs, EnAt w' x ∧ (D x.p ∨ (w.heap.size ≤ x.p ∧ x.p < w'.heap.size)) ∧ ∀ b, blkOf x.ka b → (D b ∨ (w.heap.size ≤ b ∧ b < w'.heap.size)) := fun x hx => by
      obtain ⟨q1, q2, q3⟩ := h.en x hx
      exact ⟨q1.kp hk (hno q1.row (by decide) (by decide)) fun c hc => by obtain ⟨_, hB⟩ := q1.key.blk_of hc; exact hno hB (by decide) (by decide), .inl q2, fun b hb => .inl (q3 b hb)⟩
    rcases List.mem_append.1 hx' with h1 | h1
    · exact hold x (List.mem_of_mem_take h1)
    · rcases List.mem_cons.1 h1 with rfl | h1
      · exact ⟨hy, .inr ⟨hp, hy.row.lt⟩, fun b hb => by rw [hyk] at hb; simp [blkOf] at hb⟩
      · exact hold x (List.mem_of_mem_drop h1)
  · have hya : ∀ x ∈ xs, apart y x := fun x hx => by
      obtain ⟨q1, _⟩ := h.en x hx
      exact ⟨fun e => by have := q1.row.lt; omega, fun b hb => by rw [hyk] at hb; simp [blkOf] at hb⟩
    rw [List.pairwise_append]
    refine ⟨List.Pairwise.sublist (List.take_sublist _ _) h.ap, List.pairwise_cons.2 ⟨fun x hx => hya x (List.mem_of_mem_drop hx), List.Pairwise.sublist (List.drop_sublist _ _) h.ap⟩, fun x hx z hz => ?_⟩
    rcases List.mem_cons.1 hz with rfl | hz
    · exact apart_symm (hya x (List.mem_of_mem_take hx))
    · have h2 := h.ap
      rw [← List.take_append_drop i xs, List.pairwise_append] at h2
      exact h2.2.2 x hx z hz
  · rcases hj with h1 | h1
    · exact Nat.lt_of_lt_of_le (h.dlt j h1) hz
    · exact h1.2
theorem sl_seg {w : World} {b m cap : Nat} {xs : List Int} (h : Own w 5 1 (some ⟨b, 0, none⟩) m cap (ints .u8 xs)) : Seg w b 0 (ints .u8 xs) := own_seg h
def idK (key : List UInt8) : List UInt8 := derive key 1 [] 16
theorem idK_length (key : List UInt8) : (idK key).length = 16 := derive_length _ _ _ _
set_option maxRecDepth 100000 in
set_option maxHeartbeats 4000000 in
theorem add_calls (xs : List En) (key : List UInt8) (ak : Option Addr) (lenk capk : Nat) (r bo : Nat) (w : World) {D Dk : Nat → Prop} (hR : RingAt w r bo xs D) (hg : Kr.Good (ents xs)) (hk : SlE w .u8 ak lenk capk (bs8 key) Dk) (hkn : ak = none → lenk = 0) (hkD : ∀ b, Dk b → ¬ D b) :
    Calls Tryd.prog 19 #[.pointer (some ⟨r, 0, none⟩), .slice ak lenk capk] w
      fun e w' => e = .returned (.tuple #[.agg (ints .u8 (bs8 (if addOk (idK key) key (ents xs) = 0 then idK key else List.replicate 16 0))).toArray, .int .i64 ((addOk (idK key) key (ents xs) : Nat) : Int)]) ∧
        RingTo w w' r bo D (if addOk (idK key) key (ents xs) = 0 then Kr.add (idK key) key (ents xs) else ents xs) := by
  have hlk := hk.len_eq
  simp only [bs8_length] at hlk
  subst hlk
  have hidl := idK_length key
  refine calls_at (n := 72) Tryd.func19 rfl rfl (by simp) ?_
  (refine At_seq ?_; refine At_region ?_)
  refine AtR_go rfl (AtG_alloc fun b4 w1 hb4 e1 => ?_)
  have B4 : Blk w1 b4 22 (0, 0) z22 := e1.blk
  have K1 : Kp No w w1 := e1.kp (.inr (by omega))
  clear e1
  obtain ⟨fz0, hc0⟩ := hR.con
  have l1 := hc0.lt
  by_cases hsh : key.length < 16 ∨ 64 < key.length
  · have hok : addOk (idK key) key (ents xs) = 2 := by unfold addOk; rw [if_pos hsh]
    rw [hok]
    simp only [show ¬ (2 : Nat) = 0 by decide, if_false]
    rcases hsh with h1 | h1
    · (refine s_as ?_; refine AtR_nil ?_; refine At_seq ?_; refine At_seq ?_; refine At_region ?_; refine s_mv ?_; refine s_ln ?_; refine s_lss ?_; refine s_mv ?_; refine s_no rfl rfl rfl rfl ?_; refine s_no rfl rfl rfl rfl ?_; refine s_no rfl rfl rfl rfl ?_; refine s_pt ?_; refine AtR_nil ?_; refine At_cond_t rfl ?_; refine At_seq ?_; refine At_region ?_)
      refine s_val (x_build (by first | rfl | exact rfl) built22) ?_
      refine AtR_go rfl (G_skip (r_store_all (s := 16) rfl rfl B4 (by simp [z22]) (by simp [z22]) (by decide)) fun w2 e2 => ?_)
      (refine s_as ?_; refine AtR_nil ?_)
      refine At_ret_cell2 (s := 16) Tryd.func19 rfl rfl e2.blk (by simp [z22]) rfl ⟨by rw [z22_eq]; rfl, ringTo_same hR (K1.trans' (e2.kp (S := fun j => j = b4) (.inl rfl)) (by rintro j rfl; right; omega))⟩
    · (refine s_as ?_; refine AtR_nil ?_; refine At_seq ?_; refine At_seq ?_; refine At_region ?_; refine s_mv ?_; refine s_ln ?_; refine s_lss ?_; refine s_mv ?_; refine s_yes rfl rfl rfl rfl ?_; refine g_mv ?_; refine s_yes rfl rfl rfl rfl ?_; refine g_ln ?_; refine s_yes rfl rfl rfl rfl ?_; refine g_gtr ?_; refine s_pf ?_; refine AtR_nil ?_; refine At_cond_t rfl ?_; refine At_seq ?_; refine At_region ?_)
      refine s_val (x_build (by first | rfl | exact rfl) built22) ?_
      refine AtR_go rfl (G_skip (r_store_all (s := 16) rfl rfl B4 (by simp [z22]) (by simp [z22]) (by decide)) fun w2 e2 => ?_)
      (refine s_as ?_; refine AtR_nil ?_)
      refine At_ret_cell2 (s := 16) Tryd.func19 rfl rfl e2.blk (by simp [z22]) rfl ⟨by rw [z22_eq]; rfl, ringTo_same hR (K1.trans' (e2.kp (S := fun j => j = b4) (.inl rfl)) (by rintro j rfl; right; omega))⟩
  have hR1 := hR.kpn K1
  obtain ⟨a, cap, R1, hO, hOD⟩ := hR1.es
  obtain ⟨fz, hc⟩ := hR1.con
  have hob := hR1.ob
  rw [z129_eq] at hob
  (refine s_as ?_; refine AtR_nil ?_; refine At_seq ?_; refine At_seq ?_; refine At_region ?_; refine s_mv ?_; refine s_ln ?_; refine s_lss ?_; refine s_mv ?_; refine s_yes rfl rfl rfl rfl ?_; refine g_mv ?_; refine s_yes rfl rfl rfl rfl ?_; refine g_ln ?_; refine s_yes rfl rfl rfl rfl ?_; refine g_gtr ?_; refine s_pf ?_; refine AtR_nil ?_; refine At_cond_f rfl ?_; refine At_skip ?_; refine At_seq ?_; refine At_region ?_; refine s_mv ?_; refine s_nc ?_; refine s_fa ?_; refine s_ld ?_; refine s_mv ?_)
  refine s_call x_call (deriveP_calls sumOk bo key 1 [] 16 ak _ capk none 0 0 _ (D' := fun _ => True) hob (hk.kpn K1) ⟨rfl, Nat.le_refl _, by omega, .inl rfl⟩ (by omega) (by omega) (by omega) hc) ?_
  rintro _ w2 ⟨a2, cap2, rfl, ho2, hf2, k2⟩
  refine ⟨_, rfl, ?_⟩
  change Own w2 5 1 a2 16 cap2 (ints .u8 (bs8 (idK key))) at ho2
  have K2 := K1.trans k2
  obtain ⟨bi, spi, rfl, hBi, _, _⟩ := ho2.some_of (by have := ho2.2.1; omega)
  have hsegi := sl_seg ho2
  (refine s_mv ?_; refine s_ex ?_; refine s_ex ?_; refine s_as ?_; refine s_as ?_; refine AtR_nil ?_; refine At_seq ?_; refine At_region ?_; refine s_mv ?_)
  refine s_val (x_arrayAt rfl (by omega)) ?_
  refine s_val (x_load_segN rfl hsegi (by simp [hidl])) ?_
  refine AtR_go rfl (AtG_alloc fun b8 w3 hb8 e3 => ?_)
  have z3 := e3.size
  have z2 := K2.size
  refine AtR_go rfl (G_skip (r_store_all (s := 16) rfl rfl e3.blk (by simp [hidl]) (by simp [z22]) (ints_one _ _)) fun w4 e4 => ?_)
  have B8 : Blk w4 b8 22 (0, 0) (ints .u8 (bs8 (idK key))) := e4.blk
  have k4 : Kp No w2 w4 := (e3.kp (S := No) (.inr (by omega))).trans' (e4.kp (S := fun j => j = b8) (.inl rfl)) (by rintro j rfl; right; omega)
  have K4 := K2.trans k4
  have B44 := (B4.kp k2 fun h => h).kp k4 fun h => h
  clear e3 e4 hBi hsegi ho2
  (refine AtR_nil ?_; refine At_seq ?_; refine At_region ?_; refine s_mv ?_)
  refine s_val (x_load_all rfl B8 (by simp [hidl])) ?_
  refine s_call x_call (find_calls xs (idK key) r bo _ (hR.kpn K4) hg.sorted hidl) ?_
  rintro _ w5 ⟨rfl, k5⟩
  refine ⟨_, rfl, ?_⟩
  have K5 := K4.trans k5
  have B45 := B44.kp k5 fun h => h
  have B85 := B8.kp k5 fun h => h
  have hpl := pos_le (idK key) (ents xs)
  rw [ents_length] at hpl
  clear B44 B8 B4 k2 k4 k5 K1 K2 K4
  have z5 := K5.size
  have lb4 := B45.lt
  have lb8 := B85.lt
  have hb4w : w.heap.size ≤ b4 := by omega
  have hb8w : w.heap.size ≤ b8 := by omega
  have hfull := hR.few
  obtain ⟨i, hi⟩ : ∃ i, i = pos (idK key) (ents xs) := ⟨_, rfl⟩
  rw [← hi] at hpl ⊢
  generalize hh : hit (idK key) (ents xs) = hb
  (refine s_mv ?_; refine s_ex ?_; refine s_ex ?_; refine s_as ?_; refine s_as ?_; refine AtR_nil ?_; refine At_seq ?_; refine At_seq ?_; refine At_region ?_; refine s_mv ?_; refine s_nt ?_; refine AtR_nil ?_)
  refine At_meet (σ := List En × (Nat → Prop)) (fun s => [(0, .pointer (some ⟨r, 0, none⟩)), (1, .slice ak key.length capk), (4, .pointer (some ⟨b4, 0, none⟩)), (8, .pointer (some ⟨b8, 0, none⟩)), (9, .int .i64 (i : Int))])
    (fun s w' => RingAt w' r bo s.1 s.2 ∧ i < s.1.length ∧ (ents s.1).set i { (s.1.getD i default).e with key := key } = Kr.add (idK key) key (ents xs) ∧ (∀ j, s.2 j → D j ∨ w5.heap.size ≤ j) ∧ Kp D w5 w' ∧ addOk (idK key) key (ents xs) = 0) ?_ ?_
  · rintro ⟨ys, D5⟩ w6 junk ⟨hR6, hil, hadd, hD6, K6, hok⟩
    simp only at hR6 hil hadd hD6
    have K56 : Kp D w w6 := (K5.mono fun _ h => h.elim).trans K6
    have nD4 : ¬ D b4 := fun h => by have := hR.dlt b4 h; omega
    have nD8 : ¬ D b8 := fun h => by have := hR.dlt b8 h; omega
    have nE4 : ¬ D5 b4 := fun h => (hD6 b4 h).elim nD4 fun h => by omega
    have B46 := B45.kp K6 nD4
    have B86 := B85.kp K6 nD8
    have kd := Kp.drew (S := No) (w := w6)
    (refine At_seq ?_)
    have hRd := hR6.kpn kd
    have B4d := B46.kp kd fun h => h
    have B8d := B86.kp kd fun h => h
    have zd : w6.heap.size = w6.drew.heap.size := rfl
    obtain ⟨a6, cap6, R6, hO6, hOD6⟩ := hRd.es
    obtain ⟨ab, sp6, rfl, hB6, _, _⟩ := hO6.some_of (by have := hO6.2.1; omega)
    obtain ⟨x, hx⟩ : ∃ x, x = ys.getD i default := ⟨_, rfl⟩
    have hxm : x ∈ ys := by rw [hx]; exact mem_getD hil
    obtain ⟨hE, hdx, hdk⟩ := hRd.en x hxm
    let S : World → Prop := fun w' => Blk w' r 125 (0, 0) [.pointer (some ⟨bo, 0, none⟩), .slice (some ⟨ab, 0, none⟩) ys.length cap6] ∧ Seg w' ab 0 (ys.map ptrE)
    refine At_draw S rfl ?_
    have hS : S w6.drew := ⟨R6, own_seg hO6⟩
    (apply AtH_take 0 rfl (by decide +kernel) (by exact rfl); (focus (intro wx hx; skip; exact x_move (by conv => lhs; whnf))); (focus (exact hS)))
    (apply AtH_take 1 rfl (by decide +kernel) (by exact rfl); (focus (intro wx hx; skip; exact x_nilCheck rfl)); (focus (exact hS)))
    (apply AtH_take 2 rfl (by decide +kernel) (by exact rfl); (focus (intro wx hx; skip; exact x_fieldAddrN rfl (by first | exact Nat.zero_add _ | exact Nat.add_zero _ | (simp only [Nat.reduceAdd] <;> rfl) | exact rfl))); (focus (exact hS)))
    (apply AtH_take 4 rfl (by decide +kernel) (by exact rfl); (focus (intro wx hx; skip; exact x_move (by conv => lhs; whnf))); (focus (exact hS)))
    (apply AtH_take 7 rfl (by decide +kernel) (by exact rfl); (focus (intro wx hx; skip; exact x_move (by conv => lhs; whnf))); (focus (exact hS)))
    -- ready now: 3 load 123 t62, 8 call f69(t67)
    refine AtH_take 3 rfl (by decide +kernel) rfl (fun wx hx => x_load1 rfl hx.1 rfl) hS ?_
    (apply AtH_take 5 rfl (by decide +kernel) (by exact rfl); (focus (intro wx hx; skip; exact x_indexAddrN1 rfl rfl (by omega))); (focus (exact hS)))
    -- ready now: 6 load 135 t65, 8 call f69(t67)
    refine AtH_take 6 rfl (by decide +kernel) rfl (fun wx hx => x_load_ptr rfl hx.2 (by omega)) hS ?_
    rw [← hx]
    -- ready now: 8 call f69(t67)
    refine AtH_call 8 rfl (by decide +kernel) (by exact rfl) x_call  (clone_calls key ak _ capk _ ((hk.kp K56 hkD).kp kd fun _ _ h => h) (by omega) hkn) ?_
    rintro _ w7 ⟨a7, cap7, rfl, ho7, hf7, k7⟩
    have hS7 : S w7 := ⟨hS.1.kp k7 fun h => h, hS.2.kp k7 (fun h => h) hB6.lt⟩
    refine ⟨_, rfl, hS7, ?_⟩
    clear hS
    have hS := hS7
    (apply AtH_take 9 rfl (by decide +kernel) (by exact rfl); (focus (intro wx hx; skip; exact x_nilCheck rfl)); (focus (exact hS)))
    (apply AtH_take 10 rfl (by decide +kernel) (by exact rfl); (focus (intro wx hx; skip; exact x_fieldAddrN rfl (by first | exact Nat.zero_add _ | exact Nat.add_zero _ | (simp only [Nat.reduceAdd] <;> rfl) | exact rfl))); (focus (exact hS)))
    -- ready now: 11 store 31 t70 t68
    have hE7 := hE.kpn k7
    have hrow7 := hE7.row
    have hlen7 := en_len hE7
    refine H_skip 11 rfl (by decide +kernel) rfl (r_store1 (v := .slice a7 key.length cap7) rfl rfl hrow7 (by omega) rfl rfl) ?_
    intro w8 e8
    have k8 : Kp (fun j => j = x.p) w7 w8 := e8.kp (.inl rfl)
    rw [en_set16 hE7] at e8
    refine ⟨⟨hS.1.kp k8 (hS.1.ne hrow7 (by decide)), hS.2.kp k8 ((hB6.kp k7 fun h => h).ne hrow7 (by decide)) (hB6.kp k7 fun h => h).lt⟩, AtH_done (by decide +kernel) ?_⟩
    have hy8 : EnAt w8 (wk x a7 cap7 key) := ⟨e8.blk, ho7.kp k8 (fun j hj h => by obtain ⟨_, hB⟩ := ho7.blk_of hj; exact hB.ne hrow7 (by decide) h), hE.id, hE.few⟩
    have kS : Kp (fun j => j = x.p) w6.drew w8 := (k7.mono fun _ h => h.elim).trans k8
    have hR8 := hRd.set (i := i) (y := wk x a7 cap7 key) hil kS (fun j hj => .inl (by rw [← hx]; exact hj)) (by rw [← hx]; rfl) hy8 (fun c hc => .inr (hf7 c hc))
    have hx4 : b4 ≠ x.p := B4d.ne hE.row (by decide)
    have hx8 : b8 ≠ x.p := B8d.ne hE.row (by decide)
    have B48 := B4d.kp kS hx4
    have B88 := B8d.kp kS hx8
    (refine At_seq ?_; refine At_region ?_)
    refine s_val (x_load_all rfl B88 (by simp [hidl])) ?_
    refine AtR_go rfl (G_skip (r_store_all (s := 16) rfl rfl B48 (by simp [hidl]) (by simp [z22]) (ints_one _ _)) fun w9 e9 => ?_)
    have k9 : Kp (fun j => j = b4) w8 w9 := e9.kp (.inl rfl)
    (refine s_as ?_; refine AtR_nil ?_)
    rw [hok]
    refine At_ret_cell2 (s := 16) Tryd.func19 rfl rfl e9.blk (by simp [hidl]) rfl ⟨rfl, ?_⟩
    have nb4 : ¬ (D5 b4 ∨ (w6.drew.heap.size ≤ b4 ∧ b4 < w8.heap.size)) := by
      rintro (h | h)
      · exact nE4 h
      · have := K6.size; omega
    refine ⟨ys.set i (wk x a7 cap7 key), _, hR8.kp k9 (fun j hj => ?_), ?_, fun j hj => ?_, ?_⟩
    · subst hj; exact ⟨nb4, fun h => by have := hR.ob.lt; omega, fun h => by omega⟩
    · rw [if_pos rfl, ents_set, ← hadd, ← hx]; rfl
    · rcases hj with h | h
      · exact (hD6 j h).imp (fun h => h) fun h => by omega
      · right; have := K6.size; omega
    · refine ((K56.trans (kd.mono fun _ h => h.elim)).trans' kS ?_).trans' k9 (by rintro j rfl; right; omega)
      rintro j rfl
      rcases hD6 _ hdx with h | h
      · exact .inl h
      · right; omega
  · intro join
    cases hb with
    | true =>
      obtain ⟨hil, e1, e2⟩ := ent_eq hh
      rw [ents_length, ← hi] at hil
      have hR5 := hR.kpn K5
      have hee : (xs.getD i default).e = ent (idK key) (ents xs) := by rw [hi]; exact enOf_e hh
      (refine At_cond_f rfl ?_; refine At_skip ?_)
      refine join (xs, D) _ _ ⟨rfl, rfl, rfl, rfl, rfl, trivial⟩ ⟨hR5, hil, ?_, fun j h => .inl h, Kp.refl _ _, ?_⟩
      · unfold Kr.add
        rw [hh, if_pos rfl, ← hi, ← hee]
      · unfold addOk; rw [if_neg hsh, if_neg (by rw [hh]; simp)]
    | false =>
      have hR5 := hR.kpn K5
      obtain ⟨a5, cap5, R5, hO5, hOD5⟩ := hR5.es
      have nD4 : ¬ D b4 := fun h => by have := hR.dlt b4 h; omega
      (refine At_cond_t rfl ?_)
      refine At_seq ?_
      by_cases hf : xs.length = 16
      · have hok : addOk (idK key) key (ents xs) = 12 := by unfold addOk; rw [if_neg hsh, if_pos ⟨hh, by simp; omega⟩]
        rw [hok]
        simp only [show ¬ (12 : Nat) = 0 by decide, if_false]
        (refine At_seq ?_; refine At_region ?_; refine s_mv ?_; refine s_nc ?_; refine s_fa ?_; refine s_ld ?_; refine s_ln ?_; refine s_eql ?_; refine AtR_nil ?_; refine At_cond_t rfl ?_; refine At_seq ?_; refine At_region ?_)
        refine s_val (x_build (by first | rfl | exact rfl) built22) ?_
        refine AtR_go rfl (G_skip (r_store_all (s := 16) rfl rfl B45 (by simp [z22]) (by simp [z22]) (by decide)) fun w6 e6 => ?_)
        (refine s_as ?_; refine AtR_nil ?_)
        refine At_ret_cell2 (s := 16) Tryd.func19 rfl rfl e6.blk (by simp [z22]) rfl ⟨by rw [z22_eq]; rfl, ringTo_same hR (K5.trans' (e6.kp (S := fun j => j = b4) (.inl rfl)) (by rintro j rfl; right; omega))⟩
      · have hok : addOk (idK key) key (ents xs) = 0 := by unfold addOk; rw [if_neg hsh, if_neg (by rw [hh]; simp; omega)]
        skip
        refine At_seq ?_
        (refine At_region ?_; refine s_mv ?_; refine s_nc ?_; refine s_fa ?_; refine s_ld ?_; refine s_ln ?_; refine s_eql ?_; refine AtR_nil ?_; refine At_cond_f rfl ?_; refine At_skip ?_)
        have kd := Kp.drew (S := No) (w := w5)
        have zd : w5.heap.size = w5.drew.heap.size := rfl
        have Rd := R5.kp kd fun h => h
        have B8d := B85.kp kd fun h => h
        have hOd := hO5.kp kd fun _ _ h => h
        let S : World → Prop := fun w' => Blk w' r 125 (0, 0) [.pointer (some ⟨bo, 0, none⟩), .slice a5 xs.length cap5] ∧ Blk w' b8 22 (0, 0) (ints .u8 (bs8 (idK key)))
        refine AtL_draw S 13 rfl ?_
        have hS : S w5.drew := ⟨Rd, B8d⟩
        (apply AtL_take 0 rfl (by decide +kernel) (by exact rfl); (focus (intro wx hx; skip; exact x_move (by conv => lhs; whnf))); (focus (exact hS)))
        (apply AtL_take 1 rfl (by decide +kernel) (by exact rfl); (focus (intro wx hx; skip; exact x_move (by conv => lhs; whnf))); (focus (exact hS)))
        (apply AtL_take 2 rfl (by decide +kernel) (by exact rfl); (focus (intro wx hx; skip; exact x_nilCheck rfl)); (focus (exact hS)))
        (apply AtL_take 3 rfl (by decide +kernel) (by exact rfl); (focus (intro wx hx; skip; exact x_fieldAddrN rfl (by first | exact Nat.zero_add _ | exact Nat.add_zero _ | (simp only [Nat.reduceAdd] <;> rfl) | exact rfl))); (focus (exact hS)))
        (apply AtL_take 5 rfl (by decide +kernel) (by exact rfl); (focus (intro wx hx; skip; exact x_move (by conv => lhs; whnf))); (focus (exact hS)))
        -- ready now: 4 load 123 t50, 6 load 22 t8
        refine AtL_take 4 rfl (by decide +kernel) rfl (fun wx hx => x_load1 rfl hx.1 rfl) hS ?_
        refine AtL_take 6 rfl (by decide +kernel) rfl (fun wx hx => x_load_all rfl hx.2 (by simp [hidl])) hS ?_
        refine AtL_take 7 rfl (by decide +kernel) rfl (fun wx hx => x_build (by first | rfl | exact rfl) (built137_id hidl)) hS ?_
        -- ready now: 8 box 137 t54
        have hpm : (xs.map ptrE).all (·.oneCell') = true := by
          rw [List.all_eq_true]; intro v hv; obtain ⟨_, _, rfl⟩ := List.mem_map.1 hv; rfl
        refine L_val 8 rfl (by decide +kernel) rfl (r_box rfl) ?_
        rintro _ w6 ⟨bp, rfl, hbp, e6⟩
        have P6 : Blk w6 bp 137 (0, 0) (ints .u8 (bs8 (idK key)) ++ [Value.slice none 0 0, Value.int .i64 0]) := e6.blk
        have k6 : Kp No w5.drew w6 := e6.kp (.inr (by omega))
        clear e6
        have hS6 : S w6 := ⟨hS.1.kp k6 fun h => h, hS.2.kp k6 fun h => h⟩
        refine ⟨.inr hS6, ?_⟩
        refine L_val 9 rfl (by decide +kernel) rfl (r_buildSlice1 (os := [_]) rfl rfl (by omega) rfl rfl rfl) ?_
        rintro _ w7 ⟨bs, rfl, hbs, e7⟩
        have V7 : Blk w7 bs 135 (0, 0) [.pointer (some ⟨bp, 0, none⟩)] := e7.blk
        have k7 : Kp No w6 w7 := e7.kp (.inr (by omega))
        clear e7
        have hS7 : S w7 := ⟨hS6.1.kp k7 fun h => h, hS6.2.kp k7 fun h => h⟩
        refine ⟨.inr hS7, ?_⟩
        have k57 := (kd.trans k6).trans k7
        have hO7 := hO5.kp k57 fun _ _ h => h
        have z6 := k6.size
        have z7 := k57.size
        have hnbs : ¬ blkOf a5 bs := fun h => by have := hO5.lt bs h; omega
        refine AtL_call 10 rfl (by decide +kernel) (by exact rfl) x_call  (insert_calls (xs.map ptrE) (.pointer (some ⟨bp, 0, none⟩)) i xs.length a5 cap5 bs _ hO7 V7 hpl (by omega) hpm rfl hnbs) ?_
        rintro _ w8 ⟨a8, cap8, rfl, hO8, hf8, k8⟩
        have hr7 : ¬ blkOf a5 r := hO7.ne hS7.1 (by decide)
        have hS8 : S w8 := ⟨hS7.1.kp k8 hr7, hS7.2.kp k8 (hO7.ne hS7.2 (by decide))⟩
        refine ⟨_, rfl, .inr hS8, ?_⟩
        have P7 := P6.kp k7 fun h => h
        have P8 := P7.kp k8 (hO7.ne P7 (by decide))
        clear hS
        have hS := hS8
        (apply AtL_take 11 rfl (by decide +kernel) (by exact rfl); (focus (intro wx hx; skip; exact x_nilCheck rfl)); (focus (exact hS)))
        (apply AtL_take 12 rfl (by decide +kernel) (by exact rfl); (focus (intro wx hx; skip; exact x_fieldAddrN rfl (by first | exact Nat.zero_add _ | exact Nat.add_zero _ | (simp only [Nat.reduceAdd] <;> rfl) | exact rfl))); (focus (exact hS)))
        -- ready now: 13 store 123 t59 t57
        refine L_skip 13 rfl (by decide +kernel) rfl (r_store1 (v := .slice a8 (xs.length + 1) cap8) rfl rfl hS8.1 (by simp) rfl rfl) ?_
        intro w9 e9
        have k9 : Kp (fun j => j = r) w8 w9 := e9.kp (.inl rfl)
        refine ⟨.inl rfl, AtL_done (by decide +kernel) ?_⟩
        have R9 : Blk w9 r 125 (0, 0) [.pointer (some ⟨bo, 0, none⟩), .slice a8 (xs.length + 1) cap8] := e9.blk
        have P9 := P8.kp k9 (P8.ne hS8.1 (by decide))
        have kA : Kp (fun j => blkOf a5 j ∨ j = r) w5 w9 := ((k57.mono fun _ h => h.elim).trans (k8.mono fun _ h => .inl h)).trans (k9.mono fun _ h => .inr h)
        have hO9 := hO8.kp k9 fun j hj h => by obtain ⟨_, hB⟩ := hO8.blk_of hj; exact hB.ne hS8.1 (by decide) h
        have hy9 : EnAt w9 ⟨bp, none, 0, ⟨idK key, [], 0⟩⟩ := ⟨P9, Own.nil _ _ _, hidl, by simp⟩
        have hring := hR5.insert (y := ⟨bp, none, 0, ⟨idK key, [], 0⟩⟩) (i := i) hpl (by omega) kA (fun j hj => ?_) R9 hO9 (fun j hj => ?_) hy9 (by simp only; omega) rfl
        · skip
          refine join (xs.take i ++ ⟨bp, none, 0, ⟨idK key, [], 0⟩⟩ :: xs.drop i, _) _ _ ⟨rfl, rfl, rfl, rfl, rfl, trivial⟩ ⟨hring, by simp; omega, ?_, fun j h => h.imp (fun h => h) fun h => h.1, kA.mono fun j hj => ?_, hok⟩
          · simp only
            rw [getD_insert _ hpl, ents_insert]
            unfold Kr.add
            rw [hh, ← hi]
            have hl : ((ents xs).take i).length = i := by simp; omega
            rw [List.set_append_right _ _ (by omega), hl]
            simp
          · rcases hj with hj | rfl
            · exact hOD5 j hj
            · exact hR.dr
        · rcases hj with hj | rfl
          · obtain ⟨_, hB⟩ := hO5.blk_of hj; exact ⟨_, _, hB, .inr rfl⟩
          · exact ⟨_, _, R5, .inl rfl⟩
        · rcases hf8 j hj with h | h
          · exact .inl (hOD5 j h)
          · right; omega
end Go.Proofs.YtfngacepjcdlnaaDoor
