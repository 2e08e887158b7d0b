/- Walking a Go function over a first-order list of what is left to do ('At'), one operation at a time: the frame's words. Own work; nothing of a program is named here. -/
import Derived.WalkKit
import Derived.Calls
import Derived.Deep.DeepMust
import Derived.AtR
namespace Go.Kx
open Go

abbrev Env := Nat → Value
def upd (env : Env) (d : Nat) (v : Value) : Env := fun i => bif Nat.beq i d then v else env i
def updo (env : Env) (d : Option Nat) (v : Value) : Env := match d with | some d => upd env d v | none => env
def mkA (n : Nat) (env : Env) : Act := ⟨Array.ofFn (n := n) fun i => env i, []⟩
/-- The env that a call begins with. -/
def env0 (args : Array Value) : Env := fun i => args.getD i undef

theorem mkA_get (n : Nat) (env : Env) (t : Nat) (h : t < n) : (mkA n env).tmps.getD t undef = env t := by
  simp [mkA, h]
theorem mkA_get? (n : Nat) (env : Env) (t : Nat) (h : t < n) : (mkA n env).tmps[t]? = some (env t) := by
  simp [mkA, h]

theorem upd_same (env : Env) (d : Nat) (v : Value) : upd env d v d = v := by simp [upd]
theorem upd_ne (env : Env) (d i : Nat) (v : Value) (h : i ≠ d) : upd env d v i = env i := by
  have hb : Nat.beq i d = false := by
    cases hb : Nat.beq i d with
    | false => rfl
    | true => exact absurd (Nat.eq_of_beq_eq_true hb) h
  simp [upd, hb]

theorem mkA_put (n : Nat) (env : Env) (d : Option Nat) (v : Value) : (mkA n env).put d v = mkA n (updo env d v) := by
  cases d with
  | none => rfl
  | some d =>
    simp only [Act.put, updo, mkA]
    congr 1
    apply Array.ext
    · simp
    · intro i h1 h2
      rw [Array.getElem_setIfInBounds (by simpa using h2)]
      by_cases h : d = i
      · subst h; simp [upd_same]
      · simp [h, upd_ne _ _ _ _ (fun e => h e.symm)]

def ev (n : Nat) (env : Env) : Operand → Value
  | .tmp t => bif Nat.blt t n then env t else undef
  | .const v => v
  | .global g => .pointer (some ⟨g, 0, none⟩)
  | .func f => .func (.func f) #[] #[]

theorem eval_mkA (n : Nat) (env : Env) : (mkA n env).eval = ev n env := by
  funext x
  cases x with
  | tmp t =>
    simp only [Act.eval, ev]
    by_cases h : t < n
    · have : Nat.blt t n = true := by simpa [Nat.blt_eq] using h
      rw [mkA_get n env t h, this]; rfl
    · have : Nat.blt t n = false := by
        cases hb : Nat.blt t n with
        | false => rfl
        | true => exact absurd (by simpa [Nat.blt_eq] using hb) h
      rw [this]
      simp [mkA, h]
  | const v => rfl
  | global g => rfl
  | func f => rfl

theorem mkA_enter (n : Nat) (args : Array Value) (h : args.size ≤ n) : (⟨args ++ Array.replicate (n - args.size) undef, []⟩ : Act) = mkA n (env0 args) := by
  simp only [mkA, env0]
  congr 1
  apply Array.ext
  · simp; omega
  · intro i h1 h2
    simp only [Array.getElem_ofFn]
    by_cases hi : i < args.size
    · simp [hi]
    · simp [Array.getElem_append, hi]

/-- Which frame: of which function; the round of which loop; what calls are deferred. -/
structure Fm where
  fn : FuncId
  round : Option Nat
  ds : List Deferred
def fr0 (f : Fm) : Frame := { (default : Frame) with fn := f.fn, kind := .normal, roundOf := f.round }
def mkF (f : Fm) (n : Nat) (env : Env) : Act := ⟨(mkA n env).tmps, f.ds⟩
theorem mkF_put (f : Fm) (n : Nat) (env : Env) (d : Option Nat) (v : Value) : (mkF f n env).put d v = mkF f n (updo env d v) := by
  have h := mkA_put n env d v
  have h1 := congrArg Act.tmps h
  cases d with
  | none => rfl
  | some d =>
    simp only [Act.put, mkF] at h1 ⊢
    rw [h1]
theorem eval_mkF (f : Fm) (n : Nat) (env : Env) : (mkF f n env).eval = ev n env := by
  rw [← eval_mkA]
  funext x
  cases x <;> rfl
@[simp] theorem mkF_tmps (f : Fm) (n : Nat) (env : Env) : (mkF f n env).tmps = (mkA n env).tmps := rfl
@[simp] theorem fr0_round (f : Fm) : (fr0 f).roundOf = f.round := rfl
/-- The end: the call leaves; a round has nothing left to do (and its slots are told). -/
def Fin (P : Program) (f : Fm) (n : Nat) (fr : Frame) (w : World) (e : Ending) : Prop :=
  match f.round with
  | none => fr.fn = f.fn ∧ fr.leaving P w e
  | some _ => ∃ env, fr = (fr0 f).atR (mkF f n env) [] ∧ e = .returned (.tuple (mkA n env).tmps)

/-- From this list of what is left to do, with these slots and in this world, the call comes to an end that R lets by. -/
def At (P : Program) (f : Fm) (n : Nat) (R : Ending → World → Prop) (todo : List Item) (env : Env) (w : World) : Prop :=
  ∀ cs, ∃ e w' fr, R e w' ∧ Comes P (lone ((fr0 f).atR (mkF f n env) todo) cs w) (lone fr cs w') e ∧ Fin P f n fr w' e

section
variable {P : Program} {f : Fm} {n : Nat} {R : Ending → World → Prop} {k : List Item} {env : Env} {w : World}

theorem At.mono {R' : Ending → World → Prop} {todo : List Item} (hr : ∀ e w', R e w' → R' e w') (h : At P f n R todo env w) : At P f n R' todo env w :=
  fun cs => let ⟨e, w', fr, r, rest⟩ := h cs; ⟨e, w', fr, hr _ _ r, rest⟩

theorem calls_at {f : FuncId} {args : Array Value} {fn : Func} {c : Code} (hf : P.funcs[f]? = some fn) (hb : fn.body = some c) (hn : fn.ntmps = n) (ha : args.size ≤ n)
    (h : At P ⟨f, none, []⟩ n R [.code c] (env0 args) w) : Calls P f args w R := by
  intro cs
  have henter : Frame.enter P f args .normal = (fr0 ⟨f, none, []⟩).atR (mkF ⟨f, none, []⟩ n (env0 args)) [.code c] := by
    unfold mkF
    rw [← mkA_enter n args ha, ← hn]
    simp [Frame.enter, Frame.atR, hf, hb, fr0]
  obtain ⟨e, w', fr, hR, hc, rest⟩ := h cs
  rw [← henter] at hc
  exact ⟨e, w', fr, hR, hc, rest⟩

theorem At.step {todo todo' : List Item} {env' : Env} {w' : World}
    (h : ∀ cs, step P (lone ((fr0 f).atR (mkF f n env) todo) cs w) = .next (lone ((fr0 f).atR (mkF f n env') todo') cs w')) (h' : At P f n R todo' env' w') :
    At P f n R todo env w := by
  intro cs
  obtain ⟨e, w'', fr, hR, hc, rest⟩ := h' cs
  exact ⟨e, w'', fr, hR, .of_steps (.one (h cs)) hc, rest⟩

theorem At_skip (h : At P f n R k env w) : At P f n R (.code .skip :: k) env w := At.step (fun _ => stepR_skip) h
theorem At_label {l : Nat} (h : At P f n R k env w) : At P f n R (.code (.label l) :: k) env w := At.step (fun _ => stepR_label) h
theorem At_inBlock {id : Nat} (h : At P f n R k env w) : At P f n R (.inBlock id :: k) env w := At.step (fun _ => stepR_inBlock) h
theorem At_seq {x y : Code} (h : At P f n R (.code x :: .code y :: k) env w) : At P f n R (.code (.seq x y) :: k) env w := At.step (fun _ => stepR_seq) h
theorem At_block {id : Nat} {c : Code} (h : At P f n R (.code c :: .inBlock id :: k) env w) : At P f n R (.code (.block id c) :: k) env w := At.step (fun _ => stepR_block) h
theorem At_loop {c : Code} (h : At P f n R (.code c :: .inLoop c :: k) env w) : At P f n R (.code (.loop c) :: k) env w := At.step (fun _ => stepR_loop) h
theorem At_inLoop {c : Code} (h : At P f n R (.code c :: .inLoop c :: k) env w) : At P f n R (.inLoop c :: k) env w := At.step (fun _ => stepR_inLoop) h
theorem At_exit {id : Nat} {k' : List Item} (hk : exitTo id k = some k') (h : At P f n R k' env w) : At P f n R (.code (.exit id) :: k) env w := At.step (fun _ => stepR_exit hk) h
theorem At_scope {c : Code} (h : At P f n R (.code c :: .inScope c :: k) env w) : At P f n R (.code (.scope c) :: k) env w :=
  At.step (fun _ => step_lone_go (by simp [stepG, stepG.exec, Frame.atR])) h
theorem At_inScope {c : Code} (h : At P f n R k env w) : At P f n R (.inScope c :: k) env w :=
  At.step (fun _ => step_lone_go (by simp [stepG, stepG.exec, Frame.atR])) h
theorem At_goto {l : Nat} {k' : List Item} (hk : gotoIn l k = some k') (h : At P f n R k' env w) : At P f n R (.code (.goto l) :: k) env w := At.step (fun _ => stepR_goto hk) h

theorem cond_step {c : Operand} {x y : Code} {t : Bool} (h : ev n env c = .bool t) (cs : List Frame) :
    step P (lone ((fr0 f).atR (mkF f n env) (.code (.cond c x y) :: k)) cs w) = .next (lone ((fr0 f).atR (mkF f n env) (.code (if t then x else y) :: k)) cs w) :=
  stepR_cond (by rw [eval_mkF]; exact h)
theorem At_cond_t {c : Operand} {x y : Code} (hc : ev n env c = .bool true) (h : At P f n R (.code x :: k) env w) : At P f n R (.code (.cond c x y) :: k) env w :=
  At.step (fun cs => cond_step hc cs) h
theorem At_cond_f {c : Operand} {x y : Code} (hc : ev n env c = .bool false) (h : At P f n R (.code y :: k) env w) : At P f n R (.code (.cond c x y) :: k) env w :=
  At.step (fun cs => cond_step hc cs) h
theorem At_cond {c : Operand} {x y : Code} {t : Bool} (hc : ev n env c = .bool t) (h1 : t = true → At P f n R (.code x :: k) env w) (h2 : t = false → At P f n R (.code y :: k) env w) :
    At P f n R (.code (.cond c x y) :: k) env w := by
  cases t with
  | true => exact At_cond_t hc (h1 rfl)
  | false => exact At_cond_f hc (h2 rfl)

/-- The end: the results. -/
theorem At_ret {fn : Func} {v : Value} (hf : P.funcs[f.fn]? = some fn) (hr : (results fn (mkA n env).tmps).run P w = .ok v w) (h : R (.returned v) w) (h0 : f.round = none := by rfl) (h1 : f.ds = [] := by rfl) :
    At P f n R (.code .ret :: k) env w :=
  fun _ => ⟨.returned v, w, _, h, .one (stepR_ret (by simp [fr0, h0])), by unfold Fin; rw [h0]; exact ⟨rfl, rfl, h1, rfl, fn, hf, hr⟩⟩
theorem At_end {fn : Func} {v : Value} (hf : P.funcs[f.fn]? = some fn) (hr : (results fn (mkA n env).tmps).run P w = .ok v w) (h : R (.returned v) w) (h0 : f.round = none := by rfl) (h1 : f.ds = [] := by rfl) :
    At P f n R [] env w :=
  fun _ => ⟨.returned v, w, _, h, .one (stepR_end (by simp [fr0, h0])), by unfold Fin; rw [h0]; exact ⟨rfl, rfl, h1, rfl, fn, hf, hr⟩⟩

/-- In a region: 'pre' (the last first) has come up, 'rest' comes up next. -/
def AtR (P : Program) (f : Fm) (n : Nat) (R : Ending → World → Prop) (pre rest : List Oper) (k : List Item) (env : Env) (w : World) : Prop :=
  At P f n R (.inRegion (pre.reverse ++ rest).toArray (List.range' pre.length rest.length) :: k) env w

theorem At_region {id : Nat} {ops : List Oper} (h : AtR P f n R [] ops k env w) : At P f n R (.code (.region id ops.toArray false) :: k) env w := by
  refine At.step (fun _ => stepR_region) ?_
  unfold AtR at h
  simpa [List.range_eq_range'] using h

theorem AtR_nil {pre : List Oper} (h : At P f n R k env w) : AtR P f n R pre [] k env w := At.step (fun _ => stepR_region_end) h

theorem AtR_shift {pre rest : List Oper} {o : Oper} (h : AtR P f n R (o :: pre) rest k env w) :
    At P f n R (.inRegion (pre.reverse ++ o :: rest).toArray (List.range' (pre.length + 1) rest.length) :: k) env w := by
  unfold AtR at h
  simpa using h

/-- The value of the guard's operation. -/
def gslot (pre : List Oper) (j : Nat) : Option Nat := ((pre.reverse)[j]?).bind (·.dst)

theorem yielded_gslot {pre : List Oper} {rest : List Oper} {j d : Nat} {b : Bool} (hj : gslot pre j = some d) (hd : d < n) (hb : env d = .bool b) :
    yielded (pre.reverse ++ rest).toArray (mkA n env).tmps j = some b := by
  unfold gslot at hj
  have hlt : j < pre.reverse.length := by
    rcases Nat.lt_or_ge j pre.reverse.length with h | h
    · exact h
    · rw [List.getElem?_eq_none h] at hj; simp at hj
  have h1 : (pre.reverse ++ rest).toArray[j]? = pre.reverse[j]? := by
    simp only [List.getElem?_toArray]
    rw [List.getElem?_append_left hlt]
  simp only [yielded, h1, hj, Option.bind_some, mkA_get? n env d hd, hb]

/-- The operation 'o' comes up now, its guard (if it has one) says yes. -/
def AtG (P : Program) (f : Fm) (n : Nat) (R : Ending → World → Prop) (pre : List Oper) (o : Oper) (rest : List Oper) (k : List Item) (env : Env) (w : World) : Prop :=
  Region.wanted o (yielded (pre.reverse ++ o :: rest).toArray (mkA n env).tmps) = true → AtR P f n R pre (o :: rest) k env w

theorem AtR_go {pre rest : List Oper} {o : Oper} (hg : o.guard = none) (h : AtG P f n R pre o rest k env w) : AtR P f n R pre (o :: rest) k env w :=
  h (by simp [Region.wanted, hg])

theorem range_cons (a m : Nat) : List.range' a (m + 1) = a :: List.range' (a + 1) m := by simp [List.range'_succ]

theorem AtR_skip {pre rest : List Oper} {o : Oper} (hw : Region.wanted o (yielded (pre.reverse ++ o :: rest).toArray (mkA n env).tmps) = false)
    (h : AtR P f n R (o :: pre) rest k (updo env o.dst undef) w) : AtR P f n R pre (o :: rest) k env w := by
  unfold AtR
  rw [List.length_cons, range_cons]
  have ho : (pre.reverse ++ o :: rest).toArray[pre.length]? = some o := by
    simp
  refine At.step (fun cs => ?_) (AtR_shift h)
  have hs := stepR_op_skip (P := P) (b := fr0 f) (a := mkF f n env) (k := k) (cs := cs) (w := w) (ops := (pre.reverse ++ o :: rest).toArray) (i := pre.length)
    (rest := List.range' (pre.length + 1) rest.length) (by rw [ho]; simpa using hw)
  rw [ho] at hs
  simp only [Option.bind_some, mkF_put] at hs
  exact hs

/-- A guard that says yes. -/
theorem AtR_yes {pre rest : List Oper} {o : Oper} (j : Nat) (b : Bool) (d : Nat) (hg : o.guard = some (j, b)) (hj : gslot pre j = some d) (hd : d < n) (hb : env d = .bool b)
    (h : AtG P f n R pre o rest k env w) : AtR P f n R pre (o :: rest) k env w :=
  h (by simp [Region.wanted, hg, yielded_gslot hj hd hb])
/-- A guard that says no. -/
theorem AtR_no {pre rest : List Oper} {o : Oper} (j : Nat) (b : Bool) (d : Nat) (hg : o.guard = some (j, b)) (hj : gslot pre j = some d) (hd : d < n) (hb : env d = .bool (!b))
    (h : AtR P f n R (o :: pre) rest k (updo env o.dst undef) w) : AtR P f n R pre (o :: rest) k env w :=
  AtR_skip (by simp [Region.wanted, hg, yielded_gslot hj hd hb]) h

/-- What the operation does, in general. -/
def After (P : Program) (f : Fm) (n : Nat) (R : Ending → World → Prop) (pre : List Oper) (o : Oper) (rest : List Oper) (k : List Item) (env : Env) : Result Next → Prop
  | .ok (.value v) w => AtR P f n R (o :: pre) rest k (updo env o.dst v) w
  | .ok .skip w => AtR P f n R (o :: pre) rest k (updo env o.dst undef) w
  | .ok (.enter g args) w => Calls P g args w fun
      | .returned v, w' => AtR P f n R (o :: pre) rest k (updo env o.dst v) w'
      | _, _ => False
  | .ok (.row row args) w => Rows P row args w fun v w' => AtR P f n R (o :: pre) rest k (updo env o.dst v) w'
  | _ => False

theorem AtG_after {pre rest : List Oper} {o : Oper} (h : After P f n R pre o rest k env ((execOp (ev n env) o).run P w)) : AtG P f n R pre o rest k env w := by
  intro hw
  unfold AtR
  rw [List.length_cons, range_cons]
  have ho : (pre.reverse ++ o :: rest).toArray[pre.length]? = some o := by
    simp
  have hg := fun cs => stepGR_op (P := P) (b := fr0 f) (a := mkF f n env) (k := k) (cs := cs) (w := w) (ops := (pre.reverse ++ o :: rest).toArray) (i := pre.length)
    (rest := List.range' (pre.length + 1) rest.length) ho hw
  simp only [eval_mkF] at hg
  have hfin : ∀ v, ((fr0 f).atR (mkF f n env) (.inRegion (pre.reverse ++ o :: rest).toArray (pre.length :: List.range' (pre.length + 1) rest.length) :: k)).finish v
      = (fr0 f).atR (mkF f n (updo env o.dst v)) (.inRegion (pre.reverse ++ o :: rest).toArray (List.range' (pre.length + 1) rest.length) :: k) := by
    intro v; rw [Frame.finish_atR, ho]; simp only [Option.bind_some, mkF_put]
  have hsem : (o.semAt f.round (ev n env)).run P w = (execOp (ev n env) o).run P w := by
    by_cases hd : ∃ c, o.op = .defer c
    · exfalso
      obtain ⟨c, hc⟩ := hd
      have he : execOp (ev n env) o = (do let d ← resolve (ev n env) c o.type; pure (.defer d)) := by unfold execOp; rw [hc]
      rw [he, Sem.run_bind] at h
      cases hq : (resolve (ev n env) c o.type).run P w <;> rw [hq] at h <;> exact h
    · rw [Oper.semAt_eq _ _ _ (fun c hc => hd ⟨c, hc⟩)]
  generalize hr0 : (execOp (ev n env) o).run P w = r at h
  have hr := hsem.trans hr0
  clear hsem hr0
  simp only [fr0_round] at hg
  cases r with
  | halt x w' => exact h.elim
  | ok x w' =>
    cases x <;> simp only [After] at h
    case value v =>
      refine At.step (fun cs => step_lone_go ?_) (AtR_shift h)
      rw [hg, ← hfin]; simp [stepG.apply, hr]
    case skip =>
      refine At.step (fun cs => step_lone_go ?_) (AtR_shift h)
      rw [hg, ← hfin]; simp [stepG.apply, hr]
    case enter g args =>
      intro cs
      obtain ⟨e, w'', fr, hR, hsteps, _, hleave⟩ := h ((fr0 f).atR (mkF f n env) (.inRegion (pre.reverse ++ o :: rest).toArray (pre.length :: List.range' (pre.length + 1) rest.length) :: k) :: cs)
      have henter : step P (lone ((fr0 f).atR (mkF f n env) (.inRegion (pre.reverse ++ o :: rest).toArray (pre.length :: List.range' (pre.length + 1) rest.length) :: k)) cs w) =
          .next (lone (Frame.enter P g args .normal) ((fr0 f).atR (mkF f n env) (.inRegion (pre.reverse ++ o :: rest).toArray (pre.length :: List.range' (pre.length + 1) rest.length) :: k) :: cs) w') :=
        step_lone_go (by rw [hg]; simp [stepG.apply, hr, Frame.atR])
      cases e with
      | panicked c => exact hR.elim
      | outgrown => exact hR.elim
      | returned v =>
        obtain ⟨e, w₃, fr', hR', hc', rest'⟩ := AtR_shift hR cs
        refine ⟨e, w₃, fr', hR', .of_steps (.head henter (hsteps.trans (.one ?_))) hc', rest'⟩
        rw [← hfin]; exact step_leave_returned hleave
    case row row args =>
      intro cs
      obtain ⟨v, w'', hR, hsteps⟩ := h ((fr0 f).atR (mkF f n env) (.inRegion (pre.reverse ++ o :: rest).toArray (pre.length :: List.range' (pre.length + 1) rest.length) :: k)) cs
      have henter : step P (lone ((fr0 f).atR (mkF f n env) (.inRegion (pre.reverse ++ o :: rest).toArray (pre.length :: List.range' (pre.length + 1) rest.length) :: k)) cs w) =
          .next (lone (Frame.ofRow P row args .normal) ((fr0 f).atR (mkF f n env) (.inRegion (pre.reverse ++ o :: rest).toArray (pre.length :: List.range' (pre.length + 1) rest.length) :: k) :: cs) w') :=
        step_lone_go (by rw [hg]; simp [stepG.apply, hr, Frame.atR])
      obtain ⟨e, w₃, fr', hR', hc', rest'⟩ := AtR_shift hR cs
      refine ⟨e, w₃, fr', hR', .of_steps (.head henter ?_) hc', rest'⟩
      rw [← hfin]; exact hsteps
    all_goals exact h.elim

/-- What one operation comes to. -/
def Run (P : Program) (n : Nat) (env : Env) (o : Oper) (w : World) (r : Result Next) : Prop := (execOp (ev n env) o).run P w = r

/-- An operation that yields a value and leaves some world. -/
theorem AtG_value {pre rest : List Oper} {o : Oper} {v : Value} {w' : World} (hr : Run P n env o w (.ok (.value v) w'))
    (h : AtR P f n R (o :: pre) rest k (updo env o.dst v) w') : AtG P f n R pre o rest k env w :=
  AtG_after (by unfold Run at hr; rw [hr]; exact h)
theorem AtG_skip {pre rest : List Oper} {o : Oper} {w' : World} (hr : Run P n env o w (.ok .skip w'))
    (h : AtR P f n R (o :: pre) rest k (updo env o.dst undef) w') : AtG P f n R pre o rest k env w :=
  AtG_after (by unfold Run at hr; rw [hr]; exact h)
theorem AtG_call {pre rest : List Oper} {o : Oper} {g : FuncId} {args : Array Value} {w' : World} (hr : Run P n env o w (.ok (.enter g args) w'))
    (h : Calls P g args w' fun e w'' => ∃ v, e = .returned v ∧ AtR P f n R (o :: pre) rest k (updo env o.dst v) w'') : AtG P f n R pre o rest k env w :=
  AtG_after (by unfold Run at hr; rw [hr]; exact h.mono fun e w'' ⟨v, he, h'⟩ => by subst he; exact h')
theorem s_val {pre rest : List Oper} {d : Tmp} {op : Op} {ty : TypeId} {pos : String} {aft : Array Edge} {v : Value} {w' : World}
    (hr : Run P n env ⟨some d, op, ty, pos, aft, none⟩ w (.ok (.value v) w'))
    (h : AtR P f n R (⟨some d, op, ty, pos, aft, none⟩ :: pre) rest k (upd env d v) w') : AtR P f n R pre (⟨some d, op, ty, pos, aft, none⟩ :: rest) k env w :=
  AtR_go rfl (AtG_value hr h)
theorem g_val {pre rest : List Oper} {d : Tmp} {op : Op} {ty : TypeId} {pos : String} {aft : Array Edge} {g : Option (Nat × Bool)} {v : Value} {w' : World}
    (hr : Run P n env ⟨some d, op, ty, pos, aft, g⟩ w (.ok (.value v) w'))
    (h : AtR P f n R (⟨some d, op, ty, pos, aft, g⟩ :: pre) rest k (upd env d v) w') : AtG P f n R pre ⟨some d, op, ty, pos, aft, g⟩ rest k env w :=
  AtG_value hr h
theorem s_call {pre rest : List Oper} {d : Tmp} {op : Op} {ty : TypeId} {pos : String} {aft : Array Edge} {gf : FuncId} {args : Array Value} {w' : World}
    (hr : Run P n env ⟨some d, op, ty, pos, aft, none⟩ w (.ok (.enter gf args) w')) {Q : Ending → World → Prop}
    (hc : Calls P gf args w' Q)
    (h : ∀ e w'', Q e w'' → ∃ v, e = .returned v ∧ AtR P f n R (⟨some d, op, ty, pos, aft, none⟩ :: pre) rest k (upd env d v) w'') : AtR P f n R pre (⟨some d, op, ty, pos, aft, none⟩ :: rest) k env w :=
  AtR_go rfl (AtG_call hr (hc.mono h))
theorem g_call {pre rest : List Oper} {d : Tmp} {op : Op} {ty : TypeId} {pos : String} {aft : Array Edge} {g : Option (Nat × Bool)} {gf : FuncId} {args : Array Value} {w' : World}
    (hr : Run P n env ⟨some d, op, ty, pos, aft, g⟩ w (.ok (.enter gf args) w')) {Q : Ending → World → Prop}
    (hc : Calls P gf args w' Q)
    (h : ∀ e w'', Q e w'' → ∃ v, e = .returned v ∧ AtR P f n R (⟨some d, op, ty, pos, aft, g⟩ :: pre) rest k (upd env d v) w'') : AtG P f n R pre ⟨some d, op, ty, pos, aft, g⟩ rest k env w :=
  AtG_call hr (hc.mono h)
/-- A guard that says no, at an operation with a slot. -/
theorem s_no {pre rest : List Oper} {d : Tmp} {op : Op} {ty : TypeId} {pos : String} {aft : Array Edge} {j : Nat} {b b' : Bool} {dg : Nat} (hj : gslot pre j = some dg) (hd : Nat.blt dg n = true)
    (hb : env dg = .bool b') (hne : (b == b') = false)
    (h : AtR P f n R (⟨some d, op, ty, pos, aft, some (j, b)⟩ :: pre) rest k (upd env d undef) w) : AtR P f n R pre (⟨some d, op, ty, pos, aft, some (j, b)⟩ :: rest) k env w :=
  AtR_no j b dg rfl hj (by simpa [Nat.blt_eq] using hd) (by cases b <;> cases b' <;> simp_all) h
/-- A guard whose operation did not come up itself. -/
theorem s_nou {pre rest : List Oper} {d : Tmp} {op : Op} {ty : TypeId} {pos : String} {aft : Array Edge} {j : Nat} {b : Bool} {dg : Nat} (hj : gslot pre j = some dg) (hd : Nat.blt dg n = true)
    (hb : env dg = undef)
    (h : AtR P f n R (⟨some d, op, ty, pos, aft, some (j, b)⟩ :: pre) rest k (upd env d undef) w) : AtR P f n R pre (⟨some d, op, ty, pos, aft, some (j, b)⟩ :: rest) k env w := by
  have hd : dg < n := by simpa [Nat.blt_eq] using hd
  refine AtR_skip ?_ h
  have hlt : j < pre.reverse.length := by
    rcases Nat.lt_or_ge j pre.reverse.length with h | h
    · exact h
    · unfold gslot at hj; rw [List.getElem?_eq_none h] at hj; simp at hj
  have h1 : (pre.reverse ++ (⟨some d, op, ty, pos, aft, some (j, b)⟩ : Oper) :: rest).toArray[j]? = pre.reverse[j]? := by
    simp only [List.getElem?_toArray]
    rw [List.getElem?_append_left hlt]
  unfold gslot at hj
  simp only [Region.wanted, yielded, h1, hj, Option.bind_some, mkA_get? n env dg hd, hb, undef]
  rfl
/-- A guard that says yes. -/
theorem s_yes {pre rest : List Oper} {dst : Option Tmp} {op : Op} {ty : TypeId} {pos : String} {aft : Array Edge} {j : Nat} {b b' : Bool} {dg : Nat} (hj : gslot pre j = some dg) (hd : Nat.blt dg n = true)
    (hb : env dg = .bool b') (he : (b == b') = true)
    (h : AtG P f n R pre ⟨dst, op, ty, pos, aft, some (j, b)⟩ rest k env w) : AtR P f n R pre (⟨dst, op, ty, pos, aft, some (j, b)⟩ :: rest) k env w :=
  AtR_yes j b dg rfl hj (by simpa [Nat.blt_eq] using hd) (by cases b <;> cases b' <;> simp_all) h

/-- A test that is known to say yes, or no. -/
theorem s_cmp {pre rest : List Oper} {d : Tmp} {op : Op} {ty : TypeId} {pos : String} {aft : Array Edge} {p : Prop} [Decidable p] {w' : World}
    (hr : Run P n env ⟨some d, op, ty, pos, aft, none⟩ w (.ok (.value (.bool (decide p))) w')) (hp : p)
    (h : AtR P f n R (⟨some d, op, ty, pos, aft, none⟩ :: pre) rest k (upd env d (.bool true)) w') : AtR P f n R pre (⟨some d, op, ty, pos, aft, none⟩ :: rest) k env w :=
  AtR_go rfl (AtG_value (by rw [decide_eq_true hp] at hr; exact hr) h)
theorem s_cmpn {pre rest : List Oper} {d : Tmp} {op : Op} {ty : TypeId} {pos : String} {aft : Array Edge} {p : Prop} [Decidable p] {w' : World}
    (hr : Run P n env ⟨some d, op, ty, pos, aft, none⟩ w (.ok (.value (.bool (decide p))) w')) (hp : ¬ p)
    (h : AtR P f n R (⟨some d, op, ty, pos, aft, none⟩ :: pre) rest k (upd env d (.bool false)) w') : AtR P f n R pre (⟨some d, op, ty, pos, aft, none⟩ :: rest) k env w :=
  AtR_go rfl (AtG_value (by rw [decide_eq_false hp] at hr; exact hr) h)
theorem s_bool {pre rest : List Oper} {d : Tmp} {op : Op} {ty : TypeId} {pos : String} {aft : Array Edge} {p bv : Bool} {w' : World}
    (hr : Run P n env ⟨some d, op, ty, pos, aft, none⟩ w (.ok (.value (.bool p)) w')) (hp : p = bv)
    (h : AtR P f n R (⟨some d, op, ty, pos, aft, none⟩ :: pre) rest k (upd env d (.bool bv)) w') : AtR P f n R pre (⟨some d, op, ty, pos, aft, none⟩ :: rest) k env w := by
  subst hp; exact s_val hr h
theorem g_bool {pre rest : List Oper} {d : Tmp} {op : Op} {ty : TypeId} {pos : String} {aft : Array Edge} {g : Option (Nat × Bool)} {p bv : Bool} {w' : World}
    (hr : Run P n env ⟨some d, op, ty, pos, aft, g⟩ w (.ok (.value (.bool p)) w')) (hp : p = bv)
    (h : AtR P f n R (⟨some d, op, ty, pos, aft, g⟩ :: pre) rest k (upd env d (.bool bv)) w') : AtG P f n R pre ⟨some d, op, ty, pos, aft, g⟩ rest k env w := by
  subst hp; exact g_val hr h
theorem s_split {pre rest : List Oper} {d : Tmp} {op : Op} {ty : TypeId} {pos : String} {aft : Array Edge} {p : Prop} [Decidable p] {w' : World}
    (hr : Run P n env ⟨some d, op, ty, pos, aft, none⟩ w (.ok (.value (.bool (decide p))) w'))
    (h1 : p → AtR P f n R (⟨some d, op, ty, pos, aft, none⟩ :: pre) rest k (upd env d (.bool true)) w')
    (h2 : ¬ p → AtR P f n R (⟨some d, op, ty, pos, aft, none⟩ :: pre) rest k (upd env d (.bool false)) w') : AtR P f n R pre (⟨some d, op, ty, pos, aft, none⟩ :: rest) k env w := by
  by_cases hp : p
  · exact s_cmp hr hp (h1 hp)
  · exact s_cmpn hr hp (h2 hp)
theorem g_cmp {pre rest : List Oper} {d : Tmp} {op : Op} {ty : TypeId} {pos : String} {aft : Array Edge} {g : Option (Nat × Bool)} {p : Prop} [Decidable p] {w' : World}
    (hr : Run P n env ⟨some d, op, ty, pos, aft, g⟩ w (.ok (.value (.bool (decide p))) w')) (hp : p)
    (h : AtR P f n R (⟨some d, op, ty, pos, aft, g⟩ :: pre) rest k (upd env d (.bool true)) w') : AtG P f n R pre ⟨some d, op, ty, pos, aft, g⟩ rest k env w :=
  AtG_value (by rw [decide_eq_true hp] at hr; exact hr) h
theorem g_cmpn {pre rest : List Oper} {d : Tmp} {op : Op} {ty : TypeId} {pos : String} {aft : Array Edge} {g : Option (Nat × Bool)} {p : Prop} [Decidable p] {w' : World}
    (hr : Run P n env ⟨some d, op, ty, pos, aft, g⟩ w (.ok (.value (.bool (decide p))) w')) (hp : ¬ p)
    (h : AtR P f n R (⟨some d, op, ty, pos, aft, g⟩ :: pre) rest k (upd env d (.bool false)) w') : AtG P f n R pre ⟨some d, op, ty, pos, aft, g⟩ rest k env w :=
  AtG_value (by rw [decide_eq_false hp] at hr; exact hr) h
theorem g_split {pre rest : List Oper} {d : Tmp} {op : Op} {ty : TypeId} {pos : String} {aft : Array Edge} {g : Option (Nat × Bool)} {p : Prop} [Decidable p] {w' : World}
    (hr : Run P n env ⟨some d, op, ty, pos, aft, g⟩ w (.ok (.value (.bool (decide p))) w'))
    (h1 : p → AtR P f n R (⟨some d, op, ty, pos, aft, g⟩ :: pre) rest k (upd env d (.bool true)) w')
    (h2 : ¬ p → AtR P f n R (⟨some d, op, ty, pos, aft, g⟩ :: pre) rest k (upd env d (.bool false)) w') : AtG P f n R pre ⟨some d, op, ty, pos, aft, g⟩ rest k env w := by
  by_cases hp : p
  · exact g_cmp hr hp (h1 hp)
  · exact g_cmpn hr hp (h2 hp)

theorem At_ret1 {fn : Func} {t : Tmp} {v : Value} (hf : P.funcs[f.fn]? = some fn) (hr : fn.results = #[.tmp t]) (hv : ev n env (.tmp t) = v) (h : R (.returned v) w) (h0 : f.round = none := by rfl) (h1 : f.ds = [] := by rfl) :
    At P f n R (.code .ret :: k) env w := by
  refine At_ret hf ?_ h h0 h1
  rw [results_tmp hr]
  have := congrFun (eval_mkA n env) (.tmp t)
  rw [← hv, ← this]; rfl
theorem At_ret2 {fn : Func} {t u : Tmp} {v v2 : Value} (hf : P.funcs[f.fn]? = some fn) (hr : fn.results = #[.tmp t, .tmp u]) (hv : ev n env (.tmp t) = v) (hv2 : ev n env (.tmp u) = v2)
    (h : R (.returned (.tuple #[v, v2])) w) (h0 : f.round = none := by rfl) (h1 : f.ds = [] := by rfl) : At P f n R (.code .ret :: k) env w := by
  refine At_ret hf ?_ h h0 h1
  rw [results_tmp2 hr]
  have g1 := congrFun (eval_mkA n env) (.tmp t)
  have g2 := congrFun (eval_mkA n env) (.tmp u)
  rw [← hv, ← hv2, ← g1, ← g2]; rfl
theorem At_ret0 {fn : Func} (hf : P.funcs[f.fn]? = some fn) (hr : fn.results = #[]) (h : R (.returned (.tuple #[])) w) (h0 : f.round = none := by rfl) (h1 : f.ds = [] := by rfl) : At P f n R (.code .ret :: k) env w :=
  At_ret hf (results_none hr _ _ _) h h0 h1
theorem At_end0 {fn : Func} (hf : P.funcs[f.fn]? = some fn) (hr : fn.results = #[]) (h : R (.returned (.tuple #[])) w) (h0 : f.round = none := by rfl) (h1 : f.ds = [] := by rfl) : At P f n R [] env w :=
  At_end hf (results_none hr _ _ _) h h0 h1
end

/-- What some slots hold. -/
def Live (env : Env) : List (Nat × Value) → Prop
  | [] => True
  | (d, v) :: l => env d = v ∧ Live env l
/-- Slots laid over an env. -/
def upds (env : Env) : List (Nat × Value) → Env
  | [] => env
  | (d, v) :: l => upd (upds env l) d v
theorem env_as (env : Env) : ∀ (l : List (Nat × Value)), Live env l → env = upds env l
  | [], _ => rfl
  | (d, v) :: l, h => by
    have ih := env_as env l h.2
    have hd : env d = v := h.1
    simp only [upds]
    rw [← ih]
    funext i
    by_cases hi : i = d
    · subst hi; rw [upd_same, hd]
    · rw [upd_ne _ _ _ _ hi]
/-- A loop: 's' is what its slots stand for. -/
theorem At_while {P : Program} {f : Fm} {n : Nat} {R : Ending → World → Prop} {k : List Item} {env : Env} {w : World} {c : Code} {σ : Type} (live : σ → List (Nat × Value)) (I : σ → World → Prop) (μ : σ → Nat) (s : σ)
    (hl : Live env (live s)) (hI : I s w)
    (step : ∀ s w junk, I s w → (∀ s' w' env', Live env' (live s') → I s' w' → μ s' < μ s → At P f n R (.inLoop c :: k) env' w') →
      At P f n R (.code c :: .inLoop c :: k) (upds junk (live s)) w) :
    At P f n R (.code (.loop c) :: k) env w := by
  have key : ∀ m s w env, μ s = m → Live env (live s) → I s w → At P f n R (.code c :: .inLoop c :: k) env w := by
    intro m
    induction m using Nat.strongRecOn with
    | _ m ih =>
      intro s w env hm hl hI
      rw [env_as env _ hl]
      exact step s w env hI fun s' w' env' hl' hI' hlt => At_inLoop (ih (μ s') (hm ▸ hlt) s' w' env' rfl hl' hI')
  exact At_loop (key _ s w env rfl hl hI)
/-- Ways that meet: what holds there, said once. -/
theorem At_meet {P : Program} {f : Fm} {n : Nat} {R : Ending → World → Prop} {k : List Item} {env : Env} {w : World} {x : Item} {σ : Type} (live : σ → List (Nat × Value)) (I : σ → World → Prop)
    (next : ∀ s w junk, I s w → At P f n R k (upds junk (live s)) w)
    (h : (∀ s w' env', Live env' (live s) → I s w' → At P f n R k env' w') → At P f n R (x :: k) env w) : At P f n R (x :: k) env w :=
  h fun s w' env' hl hI => by rw [env_as env' _ hl]; exact next s w' env' hI
attribute [irreducible] At AtR AtG Run
end Go.Kx
