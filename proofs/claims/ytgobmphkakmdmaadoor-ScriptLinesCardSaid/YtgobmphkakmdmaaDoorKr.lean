/- Ranges over a function. Own work; nothing of a program is named here. -/
import Derived.Test.YtgobmphkakmdmaaDoorKq
import Derived.RangeFuncIn
import Derived.RangeFuncRecord
namespace Go.Kx
open Go
section
attribute [local semireducible] At AtR AtG Run
variable {P : Program} {f : Fm} {n : Nat} {R : Ending → World → Prop} {k : List Item} {env : Env} {w : World}
/-- The record of a loop. -/
def loopRec (fn : FuncId) (n : Nat) (env : Env) (ps : Array Tmp) (assign body : Code) (D : Nat) : Loop := { state := .ready, pending := none, fn, tmps := (mkA n env).tmps, params := ps, assign, body, defers := D }
theorem At_rangeFunc {fn : FuncId} {ds : List Deferred} {g : Operand} {ps : Array Tmp} {assign body : Code} {gf : FuncId} {lb : Array Value} [hF : TFn P gf] {Q : World → Prop} (hg : ev n env g = .func (.func gf) #[] lb)
    (hc : Calls P gf (#[.func (.yield (w.heap.size + 1)) #[] #[]] ++ lb) ((w.alloc (.deferred (some []))).alloc (.loop (loopRec fn n env ps assign body w.heap.size)))
      fun e w2 => (∃ v, e = .returned v) ∧ w2.heap[w.heap.size + 1]? = some (.loop (loopRec fn n env ps assign body w.heap.size)) ∧ Q w2)
    (h : ∀ w2, Q w2 → At P ⟨fn, none, { target := .collected w.heap.size, args := #[] } :: ds⟩ n R k env (w2.putObj (w.heap.size + 1) (.loop { loopRec fn n env ps assign body w.heap.size with state := .exhausted }))) :
    At P ⟨fn, none, ds⟩ n R (.code (.rangeFunc g ps assign body) :: k) env w := by
  intro cs
  have hev : (mkF ⟨fn, none, ds⟩ n env).eval = ev n env := eval_mkF _ _ _
  have hconst : ∀ v, ev n env (.const v) = v := fun _ => rfl
  have hstep := stepR_rangeFunc (P := P) (b := fr0 ⟨fn, none, ds⟩) (a := mkF ⟨fn, none, ds⟩ n env) (k := k) (cs := cs) (w := w) (g := g) (ps := ps) (assign := assign) (body := body)
    (w₁' := (w.alloc (.deferred (some []))).alloc (.loop (loopRec fn n env ps assign body w.heap.size))) (w₂ := (w.alloc (.deferred (some []))).alloc (.loop (loopRec fn n env ps assign body w.heap.size)))
    (f := gf) (args := #[.func (.yield (w.heap.size + 1)) #[] #[]] ++ lb) (run_enterLoop_outer _ _ _ _ _) (d := { target := .fn (.func gf) lb, args := #[.func (.yield (w.heap.size + 1)) #[] #[]] }) (by
      rw [hev]
      simp [resolve, hg, hconst, Deferred.ofValue]; rfl) (by
      simp [invoke, run_callFunc])
  obtain ⟨e, w2, fr, ⟨⟨v, rfl⟩, hl, hq⟩, hsteps, _, hleave⟩ := hc (((fr0 ⟨fn, none, ds⟩).atR { mkF ⟨fn, none, ds⟩ n env with defers := [{ target := .collected w.heap.size, args := #[] }] ++ (mkF ⟨fn, none, ds⟩ n env).defers } (.inRangeFunc (w.heap.size + 1) :: k)) :: cs)
  obtain ⟨e, w3, fr', hR', hc', rest'⟩ := h w2 hq cs
  refine ⟨e, w3, fr', hR', .of_steps (.head hstep (hsteps.trans (.head (step_leave_returned hleave) ?_))) hc', rest'⟩
  rw [finish_atR_inRangeFunc]
  exact .one (stepR_endRangeFunc (run_endLoop hl (by simp [loopRec])))
/-- A round begins. -/
theorem At_beginRound {fn : FuncId} {l : Nat} {ds : List Deferred} {r : Loop} (hl : w.heap[l]? = some (.loop r)) (hr : r.state = .ready) (h : At P ⟨fn, some l, ds⟩ n R k env (w.putObj l (.loop { r with state := .busy }))) :
    At P ⟨fn, some l, ds⟩ n R (.beginRound :: k) env w :=
  At.step (fun _ => stepR_beginRound (b := fr0 ⟨fn, some l, ds⟩) rfl (run_beginRound hl hr)) h
/-- A round has come to its end. -/
theorem At_roundEnd {fn : FuncId} {l : Nat} {ds : List Deferred} (h : R (.returned (.tuple (mkA n env).tmps)) w) : At P ⟨fn, some l, ds⟩ n R [] env w :=
  fun _ => ⟨_, w, _, h, Steps.refl _ _, env, rfl, rfl⟩
/-- The iterator calls yield: a round. -/
theorem AtG_yield {pre rest : List Oper} {o : Oper} {l n0 : Nat} {env0 : Env} {r : Loop} {Q : World → Prop} (hrun : Run P n env o w (.ok (.round l r.fn (mkA n0 env0).tmps r.assign r.body) w))
    (hround : At P ⟨r.fn, some l, []⟩ n0 (fun e w' => (∃ v, e = .returned v) ∧ w'.heap[l]? = some (.loop { r with state := .busy }) ∧ Q w') [.code r.assign, .beginRound, .code r.body] env0 w)
    (h : ∀ w', Q w' → AtR P f n R (o :: pre) rest k (updo env o.dst (.bool true)) (w'.putObj l (.loop { r with state := .ready, pending := none }))) :
    AtG P f n R pre o rest k env w := by
  intro hw
  unfold AtR
  rw [List.length_cons, range_cons]
  have ho : (pre.reverse ++ o :: rest).toArray[pre.length]? = some o := by
    simp
  have hg := fun cs => stepGR_op (P := P) (b := fr0 f) (a := mkF f n env) (k := k) (cs := cs) (w := w) (ops := (pre.reverse ++ o :: rest).toArray) (i := pre.length)
    (rest := List.range' (pre.length + 1) rest.length) ho hw
  simp only [eval_mkF, fr0_round] at hg
  have hfin : ∀ v, ((fr0 f).atR (mkF f n env) (.inRegion (pre.reverse ++ o :: rest).toArray (pre.length :: List.range' (pre.length + 1) rest.length) :: k)).finish v
      = (fr0 f).atR (mkF f n (updo env o.dst v)) (.inRegion (pre.reverse ++ o :: rest).toArray (List.range' (pre.length + 1) rest.length) :: k) := by
    intro v; rw [Frame.finish_atR, ho]; simp only [Option.bind_some, mkF_put]
  unfold Run at hrun
  have hsem : (o.semAt f.round (ev n env)).run P w = .ok (.round l r.fn (mkA n0 env0).tmps r.assign r.body) w := by
    by_cases hd : ∃ c, o.op = .defer c
    · exfalso
      obtain ⟨c, hc⟩ := hd
      have he : execOp (ev n env) o = (do let d ← resolve (ev n env) c o.type; pure (.defer d)) := by unfold execOp; rw [hc]
      rw [he, Sem.run_bind] at hrun
      cases hq : (resolve (ev n env) c o.type).run P w <;> rw [hq] at hrun <;> cases hrun
    · rw [Oper.semAt_eq _ _ _ (fun c hc => hd ⟨c, hc⟩)]; exact hrun
  intro cs
  obtain ⟨e, w', fr, ⟨_, hl, hq⟩, hsteps, env', rfl, rfl⟩ := hround ((fr0 f).atR (mkF f n env) (.inRegion (pre.reverse ++ o :: rest).toArray (pre.length :: List.range' (pre.length + 1) rest.length) :: k) :: cs)
  have henter : step P (lone ((fr0 f).atR (mkF f n env) (.inRegion (pre.reverse ++ o :: rest).toArray (pre.length :: List.range' (pre.length + 1) rest.length) :: k)) cs w) =
      .next (lone ((fr0 ⟨r.fn, some l, []⟩).atR (mkF ⟨r.fn, some l, []⟩ n0 env0) [.code r.assign, .beginRound, .code r.body]) ((fr0 f).atR (mkF f n env) (.inRegion (pre.reverse ++ o :: rest).toArray (pre.length :: List.range' (pre.length + 1) rest.length) :: k) :: cs) w) :=
    step_lone_go (by rw [hg]; simp [stepG.apply, hsem, Frame.atR, Frame.round, fr0, mkF])
  obtain ⟨e, w₃, fr', hR', hc', rest'⟩ := AtR_shift (h w' hq) cs
  refine ⟨e, w₃, fr', hR', .of_steps (.head henter (hsteps.trans (.one ?_))) hc', rest'⟩
  rw [← hfin]
  have h1 := stepR_round_end (P := P) (b := fr0 ⟨r.fn, some l, []⟩) (a := mkF ⟨r.fn, some l, []⟩ n0 env') (cs := cs) (w := w') (c := (fr0 f).atR (mkF f n env) (.inRegion (pre.reverse ++ o :: rest).toArray (pre.length :: List.range' (pre.length + 1) rest.length) :: k)) rfl rfl (run_endRound none hl)
  exact h1
/-- The end of a call with a loop behind it: its block of deferred calls is empty. -/
theorem At_retD {fn : FuncId} {fd : Func} {D : Nat} {v : Value} (hf : P.funcs[fn]? = some fd) (hD : w.heap[D]? = some (.deferred (some []))) (hr : (results fd (mkA n env).tmps).run P (w.putObj D (.deferred none)) = .ok v (w.putObj D (.deferred none)))
    (h : R (.returned v) (w.putObj D (.deferred none))) : At P ⟨fn, none, [{ target := .collected D, args := #[] }]⟩ n R (.code .ret :: k) env w := by
  intro cs
  refine ⟨.returned v, w.putObj D (.deferred none), { (fr0 ⟨fn, none, []⟩).atR (mkF ⟨fn, none, []⟩ n env) (.code .ret :: k) with mode := .returning }, h, .of_steps (.head (stepR_ret rfl) (.one ?_)) (Steps.refl _ _), rfl, rfl, rfl, rfl, fd, hf, hr⟩
  exact step_lone_go (by simp [stepG, unwind, Frame.atR, fr0, mkF, Sem.runT_eq, run_takeDeferred hD, GStep.bare_after])
theorem mkA_set {n0 : Nat} {env0 : Env} {p : Nat} {v : Value} : (mkA n0 env0).tmps.setIfInBounds p v = (mkA n0 (upd env0 p v)).tmps := by
  have h := congrArg Act.tmps (mkA_put n0 env0 (some p) v)
  simpa [Act.put, updo] using h
variable {dst : Option Tmp} {ty : TypeId} {pos : String} {aft : Array Edge} {g : Option (Nat × Bool)}
/-- yield called. -/
theorem x_yield {x y : Operand} {tys : Array TypeId} {l n0 p : Nat} {env0 : Env} {r : Loop} {v : Value} (hg : ev n env x = .func (.yield l) #[] #[]) (hy : ev n env y = v) (hl : w.heap[l]? = some (.loop r)) (hp : r.params = #[p]) (ht : r.tmps = (mkA n0 env0).tmps) :
    Run P n env ⟨dst, .call ⟨.value x, #[y], tys⟩, ty, pos, aft, g⟩ w (.ok (.round l r.fn (mkA n0 (upd env0 p v)).tmps r.assign r.body) w) := by
  have h := run_yield (P := P) (args := #[v]) hl (by rw [hp]; rfl)
  rw [hp, ht] at h
  unfold Run
  simp [execOp, resolve, invoke, hg, hy, Deferred.ofValue, h, mkA_set]
/-- A function with two bound values. -/
theorem x_makeFunc2 {fn : FuncId} {a b : Operand} {u v : Value} (ha : ev n env a = u) (hb : ev n env b = v) :
    Run P n env ⟨dst, .makeFunc (.func fn) #[] #[a, b], ty, pos, aft, g⟩ w (.ok (.value (.func (.func fn) #[] #[u, v])) w) := by
  unfold Run
  simp [execOp, ha, hb, Instr.makeFunc]
/-- A slice with three bounds. -/
theorem x_slice3 {T E : TypeId} {s : Nat} [hT : TU P T (.slice E)] [hs : TSz P E s] {x lo hi mx : Operand} {b off len cap l h m : Nat} {kl kh km : IntKind} (hx : ev n env x = .slice (some ⟨b, off, none⟩) len cap)
    (hl : ev n env lo = .int kl (l : Int)) (hh : ev n env hi = .int kh (h : Int)) (hm : ev n env mx = .int km (m : Int)) (h1 : l < m) (h2 : l ≤ h) (h3 : h ≤ m) (h4 : m ≤ cap) :
    Run P n env ⟨dst, .slice T x (some lo) (some hi) (some mx), ty, pos, aft, g⟩ w (.ok (.value (.slice (some ⟨b, off + l * s, none⟩) (h - l) (m - l))) w) := by
  have b1 : ∀ (k : IntKind) (i y : Nat) (c : BoundsCode), i ≤ y → (Instr.sliceBound (.int k (i : Int)) y c).run P w = .ok i w := fun k i y c hi => by
    have := run_sliceBound (P := P) (w := w) k (i : Int) y c (by omega) (by omega)
    simpa using this
  have hne : ¬ m = l := by omega
  unfold Run
  simp [execOp, hx, hl, hh, hm, Instr.sliceAt, Instr.slice, run_underlying hT.h, Instr.sliceBounds, b1 _ _ _ _ h4, b1 _ _ _ _ h3, b1 _ _ _ _ h2, run_sizeOf hs.h, hne, add_none]
end
end Go.Kx
