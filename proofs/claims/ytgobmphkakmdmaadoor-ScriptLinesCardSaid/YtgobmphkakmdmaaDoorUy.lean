/- ScriptLines: two deeds made plain, in whatever order. -/
import Derived.Test.YtgobmphkakmdmaaDoorUx
import Derived.Test.YtgobmphkakmdmaaDoorVo
set_option linter.unusedVariables false
namespace Go.Proofs.YtgobmphkakmdmaaDoor
open Go Go.Kx Go.Sc
/-- In the midst of the region: which of its operations have come up. -/
structure Reg (a b : DeedC) (b2 b3 : Nat) (w0 : World) (D : List Nat) (env : Env) (w : World) : Prop where
  e2 : env 2 = .pointer (some ⟨b2, 0, none⟩)
  e3 : env 3 = .pointer (some ⟨b3, 0, none⟩)
  e44 : env 44 = .agg (dC a).toArray
  e46 : env 46 = .agg (dC b).toArray
  B2 : Blk w b2 32 (0, 0) (dC a)
  B3 : Blk w b3 32 (0, 0) (dC b)
  K : Kp No w0 w
  c1 : 1 ∈ D → env 45 = .agg (dC (onlyD a)).toArray
  c3 : 3 ∈ D → env 47 = .agg (dC (onlyD b)).toArray
  a4 : 4 ∈ D → ∃ p, env 5 = .pointer (some ⟨p, 0, none⟩) ∧ w0.heap.size ≤ p ∧ Blk w p 32 (0, 0) (dC default)
  a5 : 5 ∈ D → ∃ p, env 6 = .pointer (some ⟨p, 0, none⟩) ∧ w0.heap.size ≤ p ∧ Blk w p 32 (0, 0) (dC default)
  ne : 4 ∈ D → 5 ∈ D → env 5 ≠ env 6
theorem mem_off {i j : Nat} {D : List Nat} (h : i ≠ j) (hm : i ∈ j :: D) : i ∈ D := (List.mem_cons.1 hm).resolve_left h
theorem Reg.one {a b : DeedC} {b2 b3 : Nat} {w0 w w' : World} {D : List Nat} {env : Env} (h : Reg a b b2 b3 w0 D env w) (k : Kp No w w') : Reg a b b2 b3 w0 (1 :: D) (updo env (some 45) (.agg (dC (onlyD a)).toArray)) w' :=
  ⟨(upd_off _ _ (by decide)).trans h.e2, (upd_off _ _ (by decide)).trans h.e3, (upd_off _ _ (by decide)).trans h.e44, (upd_off _ _ (by decide)).trans h.e46, h.B2.kp k fun h => h, h.B3.kp k fun h => h, h.K.trans k,
    fun _ => upd_at _ _ _, fun m => (upd_off _ _ (by decide)).trans (h.c3 (mem_off (by decide) m)),
    fun m => by obtain ⟨p, e, hp, hb⟩ := h.a4 (mem_off (by decide) m); exact ⟨p, (upd_off _ _ (by decide)).trans e, hp, hb.kp k fun h => h⟩,
    fun m => by obtain ⟨p, e, hp, hb⟩ := h.a5 (mem_off (by decide) m); exact ⟨p, (upd_off _ _ (by decide)).trans e, hp, hb.kp k fun h => h⟩,
    fun m m' => by show upd env 45 _ 5 ≠ upd env 45 _ 6; rw [upd_off _ _ (by decide), upd_off _ _ (by decide)]; exact h.ne (mem_off (by decide) m) (mem_off (by decide) m')⟩
theorem Reg.three {a b : DeedC} {b2 b3 : Nat} {w0 w w' : World} {D : List Nat} {env : Env} (h : Reg a b b2 b3 w0 D env w) (k : Kp No w w') : Reg a b b2 b3 w0 (3 :: D) (updo env (some 47) (.agg (dC (onlyD b)).toArray)) w' :=
  ⟨(upd_off _ _ (by decide)).trans h.e2, (upd_off _ _ (by decide)).trans h.e3, (upd_off _ _ (by decide)).trans h.e44, (upd_off _ _ (by decide)).trans h.e46, h.B2.kp k fun h => h, h.B3.kp k fun h => h, h.K.trans k,
    fun m => (upd_off _ _ (by decide)).trans (h.c1 (mem_off (by decide) m)), fun _ => upd_at _ _ _,
    fun m => by obtain ⟨p, e, hp, hb⟩ := h.a4 (mem_off (by decide) m); exact ⟨p, (upd_off _ _ (by decide)).trans e, hp, hb.kp k fun h => h⟩,
    fun m => by obtain ⟨p, e, hp, hb⟩ := h.a5 (mem_off (by decide) m); exact ⟨p, (upd_off _ _ (by decide)).trans e, hp, hb.kp k fun h => h⟩,
    fun m m' => by show upd env 47 _ 5 ≠ upd env 47 _ 6; rw [upd_off _ _ (by decide), upd_off _ _ (by decide)]; exact h.ne (mem_off (by decide) m) (mem_off (by decide) m')⟩
theorem Reg.four {a b : DeedC} {b2 b3 p : Nat} {w0 w w' : World} {D : List Nat} {env : Env} (h : Reg a b b2 b3 w0 D env w) (k : Kp No w w') (hp : p = w.heap.size) (hb : Blk w' p 32 (0, 0) (dC default)) : Reg a b b2 b3 w0 (4 :: D) (updo env (some 5) (.pointer (some ⟨p, 0, none⟩))) w' := by
  have zK := h.K.size
  refine ⟨(upd_off _ _ (by decide)).trans h.e2, (upd_off _ _ (by decide)).trans h.e3, (upd_off _ _ (by decide)).trans h.e44, (upd_off _ _ (by decide)).trans h.e46, h.B2.kp k fun h => h, h.B3.kp k fun h => h, h.K.trans k,
    fun m => (upd_off _ _ (by decide)).trans (h.c1 (mem_off (by decide) m)), fun m => (upd_off _ _ (by decide)).trans (h.c3 (mem_off (by decide) m)),
    fun _ => ⟨p, upd_at _ _ _, by omega, hb⟩,
    fun m => by obtain ⟨q, e, hq, hb⟩ := h.a5 (mem_off (by decide) m); exact ⟨q, (upd_off _ _ (by decide)).trans e, hq, hb.kp k fun h => h⟩,
    fun _ m' => ?_⟩
  obtain ⟨q, e, hq, hb⟩ := h.a5 (mem_off (by decide) m')
  have := hb.lt
  show upd env 5 _ 5 ≠ upd env 5 _ 6
  rw [upd_at, upd_off _ _ (by decide), e]
  intro h2
  injection h2 with h2
  injection h2 with h2
  injection h2 with h2
  omega
theorem Reg.five {a b : DeedC} {b2 b3 p : Nat} {w0 w w' : World} {D : List Nat} {env : Env} (h : Reg a b b2 b3 w0 D env w) (k : Kp No w w') (hp : p = w.heap.size) (hb : Blk w' p 32 (0, 0) (dC default)) : Reg a b b2 b3 w0 (5 :: D) (updo env (some 6) (.pointer (some ⟨p, 0, none⟩))) w' := by
  have zK := h.K.size
  refine ⟨(upd_off _ _ (by decide)).trans h.e2, (upd_off _ _ (by decide)).trans h.e3, (upd_off _ _ (by decide)).trans h.e44, (upd_off _ _ (by decide)).trans h.e46, h.B2.kp k fun h => h, h.B3.kp k fun h => h, h.K.trans k,
    fun m => (upd_off _ _ (by decide)).trans (h.c1 (mem_off (by decide) m)), fun m => (upd_off _ _ (by decide)).trans (h.c3 (mem_off (by decide) m)),
    fun m => by obtain ⟨q, e, hq, hb⟩ := h.a4 (mem_off (by decide) m); exact ⟨q, (upd_off _ _ (by decide)).trans e, hq, hb.kp k fun h => h⟩,
    fun _ => ⟨p, upd_at _ _ _, by omega, hb⟩, fun m _ => ?_⟩
  obtain ⟨q, e, hq, hb⟩ := h.a4 (mem_off (by decide) m)
  have := hb.lt
  show upd env 6 _ 5 ≠ upd env 6 _ 6
  rw [upd_at, upd_off _ _ (by decide), e]
  intro h2
  injection h2 with h2
  injection h2 with h2
  injection h2 with h2
  omega
end Go.Proofs.YtgobmphkakmdmaaDoor
