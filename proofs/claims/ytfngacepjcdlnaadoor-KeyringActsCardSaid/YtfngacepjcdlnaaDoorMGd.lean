/- A ring that a law has made, and what else the law has. -/
import Derived.Test.YtfngacepjcdlnaaDoorMGc
set_option linter.unusedVariables false
namespace Go.Proofs.YtfngacepjcdlnaaDoor
open Go Go.Kx Go.Kr
/-- A ring made since W. -/
structure Pack (W w : World) (r bo : Nat) (xs : List En) (D : Nat → Prop) : Prop where
  R : RingAt w r bo xs D
  new : ∀ j, D j → W.heap.size ≤ j
  K : Kp No W w
theorem Pack.kpn {W w w' : World} {r bo : Nat} {xs : List En} {D : Nat → Prop} (h : Pack W w r bo xs D) (k : Kp No w w') : Pack W w' r bo xs D := ⟨h.R.kpn k, h.new, h.K.trans k⟩
theorem Pack.to {W w w' : World} {r bo : Nat} {xs : List En} {D : Nat → Prop} {L : Ring} (h : Pack W w r bo xs D) (t : RingTo w w' r bo D L) :
    ∃ xs' D', Pack W w' r bo xs' D' ∧ ents xs' = L ∧ (∀ b, ¬ D b → b < w.heap.size → ¬ D' b) ∧ Kp D w w' := by
  obtain ⟨xs', D', hR, hL, hD, k⟩ := t
  exact ⟨xs', D', ⟨hR, newD hD h.new h.K.size, h.K.trans' k fun j hj => .inr (h.new j hj)⟩, hL, fun b hb hl => notD hD hb hl, k⟩
/-- A law's own block stored into. -/
theorem Pack.own {W w w' : World} {r bo b : Nat} {xs : List En} {D : Nat → Prop} {E : TypeId} {fz : Nat × Nat} {cs : List Value} (h : Pack W w r bo xs D) (k : Kp (fun j => j = b) w w') (hB : Blk w b E fz cs) (hb : ¬ D b) (hW : W.heap.size ≤ b) (h1 : E ≠ 129) (h2 : E ≠ 243) : Pack W w' r bo xs D := by
  refine ⟨h.R.kp k ?_, h.new, h.K.trans' k (by rintro j rfl; exact .inr hW)⟩
  rintro j rfl
  refine ⟨hb, hB.ne h.R.ob h1, ?_⟩
  obtain ⟨fz, hc⟩ := h.R.con
  exact hB.ne hc h2
/-- What was laid behind the ring is not its. -/
theorem Pack.not {W w : World} {r bo b : Nat} {xs : List En} {D : Nat → Prop} (h : Pack W w r bo xs D) (hb : w.heap.size ≤ b) : ¬ D b := fun hd => by have := h.R.dlt b hd; omega
theorem Pack.make {W w1 w2 : World} {r bo : Nat} (hC : ∃ fz, Blk W 1 243 fz (ints .u64 (ws kSha))) (K : Kp No W w1) (hO : Blk w1 bo 129 (0, 0) z129) (hr : Blk w2 r 125 (0, 0) [.pointer (some ⟨bo, 0, none⟩), .slice none 0 0]) (hlt : w1.heap.size ≤ r) (k : Kp No w1 w2) : Pack W w2 r bo [] (fun j => j = r) := by
  have K2 := K.trans k
  refine ⟨ring_new hr (hO.kp k fun h => h) (by obtain ⟨fz, hc⟩ := hC; exact ⟨fz, hc.kp K2 fun h => h⟩), fun j hj => ?_, K2⟩
  subst hj
  exact Nat.le_trans K.size hlt
/-- An identifier put into a cell of the law's. -/
theorem id_cell {P : Program} {f : Fm} {n : Nat} {R : Ending → World → Prop} {k : List Item} {env : Env} {w : World} {pre rest : List Oper} {d : Tmp} {ty ty' : TypeId} {pos pos' : String} {aft aft' : Array Edge} {x : Operand} {id : List UInt8} [TZ P 22 (.agg z22.toArray)] [TSz P 22 16] (hx : ∀ b, ev n (upd env d (.pointer (some ⟨b, 0, none⟩))) x = .agg (ints .u8 (bs8 id)).toArray) (hd : ∀ v, ev n (upd env d v) (.tmp d) = v) (hi : id.length = 16)
    (h : ∀ b w', w.heap.size ≤ b → Blk w' b 22 (0, 0) (ints .u8 (bs8 id)) → Kp No w w' → AtR P f n R (⟨none, .store 22 (.tmp d) x, ty', pos', aft', none⟩ :: ⟨some d, .alloc 22, ty, pos, aft, none⟩ :: pre) rest k (upd env d (.pointer (some ⟨b, 0, none⟩))) w') :
    AtR P f n R pre (⟨some d, .alloc 22, ty, pos, aft, none⟩ :: ⟨none, .store 22 (.tmp d) x, ty', pos', aft', none⟩ :: rest) k env w := by
  refine AtR_go rfl (AtG_alloc fun b w1 hb e1 => ?_)
  have z1 := e1.size
  refine AtR_go rfl (G_skip (r_store_all (s := 16) (vs := ints .u8 (bs8 id)) (hd _) (hx b) e1.blk (by simp [hi]) (by simp [z22]) (ints_one _ _)) fun w2 e2 => ?_)
  exact h b w2 (by omega) e2.blk ((e1.kp (S := No) (.inr (by omega))).trans' (e2.kp (S := fun j => j = b) (.inl rfl)) (by rintro j rfl; right; omega))
end Go.Proofs.YtfngacepjcdlnaaDoor
