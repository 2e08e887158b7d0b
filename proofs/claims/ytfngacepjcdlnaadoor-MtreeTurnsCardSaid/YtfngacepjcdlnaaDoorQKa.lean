/- Walking a Go function over a first-order list of what is left to do ('At'), one operation at a time: the frame's words. Own work; nothing of a program is named here. | What single operations do, said of slots and blocks. Own work; nothing of a program is named here. | Slices, rows of cells, append, make, copy, build: said of blocks. Own work; nothing of a program is named here. | A region that draws its order: what only reads is taken first, under a condition S on the world that is shown anew behind each operation that changes it. Own work; nothing of a program is named here. | Structs and arrays of whole numbers: when two are the same; what a literal of a struct makes. Own work; nothing of a program is named here. -/
import Derived.WalkKit
import Derived.Calls
import Derived.Deep.DeepMust
import Derived.AtR
import Derived.Deep.AppendSrc
import Derived.OrdersHeld
import Derived.KernelRfl
import Derived.Laws.StructEq
set_option linter.unusedVariables false
namespace Go.Kx
open Go
abbrev Env := Nat → Value
def upd (env : Env) (d : Nat) (v : Value) : Env := fun i => bif Nat.beq i d then v else env i
def updo (env : Env) (d : Option Nat) (v : Value) : Env := match d with | some d => upd env d v | none => env
def mkA (n : Nat) (env : Env) : Act := ⟨Array.ofFn (n := n) fun i => env i, []⟩
def env0 (args : Array Value) : Env := fun i => args.getD i undef
theorem mkA_get (n : Nat) (env : Env) (t : Nat) (h : t < n) : (mkA n env).tmps.getD t undef = env t := by
 simp [mkA, h]
theorem mkA_get? (n : Nat) (env : Env) (t : Nat) (h : t < n) : (mkA n env).tmps[t]? = some (env t) := by
 simp [mkA, h]
theorem upd_same (env : Env) (d : Nat) (v : Value) : upd env d v d = v := by simp [upd]
theorem upd_ne (env : Env) (d i : Nat) (v : Value) (h : i ≠ d) : upd env d v i = env i := by
 have hb : Nat.beq i d = false := by
  cases hb : Nat.beq i d with
  | false => rfl
  | true => exact absurd (Nat.eq_of_beq_eq_true hb) h
 simp [upd, hb]
theorem mkA_put (n : Nat) (env : Env) (d : Option Nat) (v : Value) : (mkA n env).put d v = mkA n (updo env d v) := by
 cases d with
 | none => rfl
 | some d =>
  simp only [Act.put, updo, mkA]
  congr 1
  apply Array.ext
  ·simp
  ·intro i h1 h2
   rw [Array.getElem_setIfInBounds (by simpa using h2)]
   by_cases h : d = i
   ·subst h; simp [upd_same]
   ·simp [h, upd_ne _ _ _ _ (fun e => h e.symm)]
def ev (n : Nat) (env : Env) : Operand → Value
 | .tmp t => bif Nat.blt t n then env t else undef
 | .const v => v
 | .global g => .pointer (some ⟨g, 0, none⟩)
 | .func f => .func (.func f) #[] #[]
theorem eval_mkA (n : Nat) (env : Env) : (mkA n env).eval = ev n env := by
 funext x
 cases x with
 | tmp t =>
  simp only [Act.eval, ev]
  by_cases h : t < n
  ·have : Nat.blt t n = true := by simpa [Nat.blt_eq] using h
   rw [mkA_get n env t h, this]; rfl
  ·have : Nat.blt t n = false := by
    cases hb : Nat.blt t n with
    | false => rfl
    | true => exact absurd (by simpa [Nat.blt_eq] using hb) h
   rw [this]
   simp [mkA, h]
 | const v => rfl
 | global g => rfl
 | func f => rfl
theorem mkA_enter (n : Nat) (args : Array Value) (h : args.size ≤ n) : (⟨args ++ Array.replicate (n - args.size) undef, []⟩ : Act) = mkA n (env0 args) := by
 simp only [mkA, env0]
 congr 1
 apply Array.ext
 ·simp; omega
 ·intro i h1 h2
  simp only [Array.getElem_ofFn]
  by_cases hi : i < args.size
  ·simp [hi]
  ·simp [Array.getElem_append, hi]
structure Fm where
 fn : FuncId
 round : Option Nat
 ds : List Deferred
def fr0 (f : Fm) : Frame := { (default : Frame) with fn := f.fn, kind := .normal, roundOf := f.round }
def mkF (f : Fm) (n : Nat) (env : Env) : Act := ⟨(mkA n env).tmps, f.ds⟩
theorem mkF_put (f : Fm) (n : Nat) (env : Env) (d : Option Nat) (v : Value) : (mkF f n env).put d v = mkF f n (updo env d v) := by
 have h := mkA_put n env d v
 have h1 := congrArg Act.tmps h
 cases d with
 | none => rfl
 | some d =>
  simp only [Act.put, mkF] at h1 ⊢
  rw [h1]
theorem eval_mkF (f : Fm) (n : Nat) (env : Env) : (mkF f n env).eval = ev n env := by
 rw [← eval_mkA]
 funext x
 cases x <;> rfl
@[simp] theorem mkF_tmps (f : Fm) (n : Nat) (env : Env) : (mkF f n env).tmps = (mkA n env).tmps := rfl
@[simp] theorem fr0_round (f : Fm) : (fr0 f).roundOf = f.round := rfl
def Fin (P : Program) (f : Fm) (n : Nat) (fr : Frame) (w : World) (e : Ending) : Prop :=
 match f.round with
 | none => fr.fn = f.fn ∧ fr.leaving P w e
 | some _ => ∃ env, fr = (fr0 f).atR (mkF f n env) [] ∧ e = .returned (.tuple (mkA n env).tmps)
def At (P : Program) (f : Fm) (n : Nat) (R : Ending → World → Prop) (todo : List Item) (env : Env) (w : World) : Prop :=
 ∀ cs, ∃ e w' fr, R e w' ∧ Comes P (lone ((fr0 f).atR (mkF f n env) todo) cs w) (lone fr cs w') e ∧ Fin P f n fr w' e
section
variable {P : Program} {f : Fm} {n : Nat} {R : Ending → World → Prop} {k : List Item} {env : Env} {w : World}
theorem At.mono {R' : Ending → World → Prop} {todo : List Item} (hr : ∀ e w', R e w' → R' e w') (h : At P f n R todo env w) : At P f n R' todo env w :=
 fun cs => let ⟨e, w', fr, r, rest⟩ := h cs; ⟨e, w', fr, hr _ _ r, rest⟩
theorem calls_at {f : FuncId} {args : Array Value} {fn : Func} {c : Code} (hf : P.funcs[f]? = some fn) (hb : fn.body = some c) (hn : fn.ntmps = n) (ha : args.size ≤ n)
  (h : At P ⟨f, none, []⟩ n R [.code c] (env0 args) w) : Calls P f args w R := by
 intro cs
 have henter : Frame.enter P f args .normal = (fr0 ⟨f, none, []⟩).atR (mkF ⟨f, none, []⟩ n (env0 args)) [.code c] := by
  unfold mkF
  rw [← mkA_enter n args ha, ← hn]
  simp [Frame.enter, Frame.atR, hf, hb, fr0]
 obtain ⟨e, w', fr, hR, hc, rest⟩ := h cs
 rw [← henter] at hc
 exact ⟨e, w', fr, hR, hc, rest⟩
theorem At.step {todo todo' : List Item} {env' : Env} {w' : World}
  (h : ∀ cs, step P (lone ((fr0 f).atR (mkF f n env) todo) cs w) = .next (lone ((fr0 f).atR (mkF f n env') todo') cs w')) (h' : At P f n R todo' env' w') :
  At P f n R todo env w := by
 intro cs
 obtain ⟨e, w'', fr, hR, hc, rest⟩ := h' cs
 exact ⟨e, w'', fr, hR, .of_steps (.one (h cs)) hc, rest⟩
theorem At_skip (h : At P f n R k env w) : At P f n R (.code .skip :: k) env w := At.step (fun _ => stepR_skip) h
theorem At_label {l : Nat} (h : At P f n R k env w) : At P f n R (.code (.label l) :: k) env w := At.step (fun _ => stepR_label) h
theorem At_inBlock {id : Nat} (h : At P f n R k env w) : At P f n R (.inBlock id :: k) env w := At.step (fun _ => stepR_inBlock) h
theorem At_seq {x y : Code} (h : At P f n R (.code x :: .code y :: k) env w) : At P f n R (.code (.seq x y) :: k) env w := At.step (fun _ => stepR_seq) h
theorem At_block {id : Nat} {c : Code} (h : At P f n R (.code c :: .inBlock id :: k) env w) : At P f n R (.code (.block id c) :: k) env w := At.step (fun _ => stepR_block) h
theorem At_loop {c : Code} (h : At P f n R (.code c :: .inLoop c :: k) env w) : At P f n R (.code (.loop c) :: k) env w := At.step (fun _ => stepR_loop) h
theorem At_inLoop {c : Code} (h : At P f n R (.code c :: .inLoop c :: k) env w) : At P f n R (.inLoop c :: k) env w := At.step (fun _ => stepR_inLoop) h
theorem At_exit {id : Nat} {k' : List Item} (hk : exitTo id k = some k') (h : At P f n R k' env w) : At P f n R (.code (.exit id) :: k) env w := At.step (fun _ => stepR_exit hk) h
theorem At_scope {c : Code} (h : At P f n R (.code c :: .inScope c :: k) env w) : At P f n R (.code (.scope c) :: k) env w :=
 At.step (fun _ => step_lone_go (by simp [stepG, stepG.exec, Frame.atR])) h
theorem At_inScope {c : Code} (h : At P f n R k env w) : At P f n R (.inScope c :: k) env w :=
 At.step (fun _ => step_lone_go (by simp [stepG, stepG.exec, Frame.atR])) h
theorem At_goto {l : Nat} {k' : List Item} (hk : gotoIn l k = some k') (h : At P f n R k' env w) : At P f n R (.code (.goto l) :: k) env w := At.step (fun _ => stepR_goto hk) h
theorem cond_step {c : Operand} {x y : Code} {t : Bool} (h : ev n env c = .bool t) (cs : List Frame) :
  step P (lone ((fr0 f).atR (mkF f n env) (.code (.cond c x y) :: k)) cs w) = .next (lone ((fr0 f).atR (mkF f n env) (.code (if t then x else y) :: k)) cs w) :=
 stepR_cond (by rw [eval_mkF]; exact h)
theorem At_cond_t {c : Operand} {x y : Code} (hc : ev n env c = .bool true) (h : At P f n R (.code x :: k) env w) : At P f n R (.code (.cond c x y) :: k) env w :=
 At.step (fun cs => cond_step hc cs) h
theorem At_cond_f {c : Operand} {x y : Code} (hc : ev n env c = .bool false) (h : At P f n R (.code y :: k) env w) : At P f n R (.code (.cond c x y) :: k) env w :=
 At.step (fun cs => cond_step hc cs) h
theorem At_cond {c : Operand} {x y : Code} {t : Bool} (hc : ev n env c = .bool t) (h1 : t = true → At P f n R (.code x :: k) env w) (h2 : t = false → At P f n R (.code y :: k) env w) :
  At P f n R (.code (.cond c x y) :: k) env w := by
 cases t with
 | true => exact At_cond_t hc (h1 rfl)
 | false => exact At_cond_f hc (h2 rfl)
theorem At_ret {fn : Func} {v : Value} (hf : P.funcs[f.fn]? = some fn) (hr : (results fn (mkA n env).tmps).run P w = .ok v w) (h : R (.returned v) w) (h0 : f.round = none := by rfl) (h1 : f.ds = [] := by rfl) :
  At P f n R (.code .ret :: k) env w :=
 fun _ => ⟨.returned v, w, _, h, .one (stepR_ret (by simp [fr0, h0])), by unfold Fin; rw [h0]; exact ⟨rfl, rfl, h1, rfl, fn, hf, hr⟩⟩
theorem At_end {fn : Func} {v : Value} (hf : P.funcs[f.fn]? = some fn) (hr : (results fn (mkA n env).tmps).run P w = .ok v w) (h : R (.returned v) w) (h0 : f.round = none := by rfl) (h1 : f.ds = [] := by rfl) :
  At P f n R [] env w :=
 fun _ => ⟨.returned v, w, _, h, .one (stepR_end (by simp [fr0, h0])), by unfold Fin; rw [h0]; exact ⟨rfl, rfl, h1, rfl, fn, hf, hr⟩⟩
def AtR (P : Program) (f : Fm) (n : Nat) (R : Ending → World → Prop) (pre rest : List Oper) (k : List Item) (env : Env) (w : World) : Prop :=
 At P f n R (.inRegion (pre.reverse ++ rest).toArray (List.range' pre.length rest.length) :: k) env w
theorem At_region {id : Nat} {ops : List Oper} (h : AtR P f n R [] ops k env w) : At P f n R (.code (.region id ops.toArray false) :: k) env w := by
 refine At.step (fun _ => stepR_region) ?_
 unfold AtR at h
 simpa [List.range_eq_range'] using h
theorem AtR_nil {pre : List Oper} (h : At P f n R k env w) : AtR P f n R pre [] k env w := At.step (fun _ => stepR_region_end) h
theorem AtR_shift {pre rest : List Oper} {o : Oper} (h : AtR P f n R (o :: pre) rest k env w) :
  At P f n R (.inRegion (pre.reverse ++ o :: rest).toArray (List.range' (pre.length + 1) rest.length) :: k) env w := by
 unfold AtR at h
 simpa using h
def gslot (pre : List Oper) (j : Nat) : Option Nat := ((pre.reverse)[j]?).bind (·.dst)
theorem yielded_gslot {pre : List Oper} {rest : List Oper} {j d : Nat} {b : Bool} (hj : gslot pre j = some d) (hd : d < n) (hb : env d = .bool b) :
  yielded (pre.reverse ++ rest).toArray (mkA n env).tmps j = some b := by
 unfold gslot at hj
 have hlt : j < pre.reverse.length := by
  rcases Nat.lt_or_ge j pre.reverse.length with h | h
  ·exact h
  ·rw [List.getElem?_eq_none h] at hj; simp at hj
 have h1 : (pre.reverse ++ rest).toArray[j]? = pre.reverse[j]? := by
  simp only [List.getElem?_toArray]
  rw [List.getElem?_append_left hlt]
 simp only [yielded, h1, hj, Option.bind_some, mkA_get? n env d hd, hb]
def AtG (P : Program) (f : Fm) (n : Nat) (R : Ending → World → Prop) (pre : List Oper) (o : Oper) (rest : List Oper) (k : List Item) (env : Env) (w : World) : Prop :=
 Region.wanted o (yielded (pre.reverse ++ o :: rest).toArray (mkA n env).tmps) = true → AtR P f n R pre (o :: rest) k env w
theorem AtR_go {pre rest : List Oper} {o : Oper} (hg : o.guard = none) (h : AtG P f n R pre o rest k env w) : AtR P f n R pre (o :: rest) k env w :=
 h (by simp [Region.wanted, hg])
theorem range_cons (a m : Nat) : List.range' a (m + 1) = a :: List.range' (a + 1) m := by simp [List.range'_succ]
theorem AtR_skip {pre rest : List Oper} {o : Oper} (hw : Region.wanted o (yielded (pre.reverse ++ o :: rest).toArray (mkA n env).tmps) = false)
  (h : AtR P f n R (o :: pre) rest k (updo env o.dst undef) w) : AtR P f n R pre (o :: rest) k env w := by
 unfold AtR
 rw [List.length_cons, range_cons]
 have ho : (pre.reverse ++ o :: rest).toArray[pre.length]? = some o := by
  simp
 refine At.step (fun cs => ?_) (AtR_shift h)
 have hs := stepR_op_skip (P := P) (b := fr0 f) (a := mkF f n env) (k := k) (cs := cs) (w := w) (ops := (pre.reverse ++ o :: rest).toArray) (i := pre.length)
  (rest := List.range' (pre.length + 1) rest.length) (by rw [ho]; simpa using hw)
 rw [ho] at hs
 simp only [Option.bind_some, mkF_put] at hs
 exact hs
theorem AtR_yes {pre rest : List Oper} {o : Oper} (j : Nat) (b : Bool) (d : Nat) (hg : o.guard = some (j, b)) (hj : gslot pre j = some d) (hd : d < n) (hb : env d = .bool b)
  (h : AtG P f n R pre o rest k env w) : AtR P f n R pre (o :: rest) k env w :=
 h (by simp [Region.wanted, hg, yielded_gslot hj hd hb])
theorem AtR_no {pre rest : List Oper} {o : Oper} (j : Nat) (b : Bool) (d : Nat) (hg : o.guard = some (j, b)) (hj : gslot pre j = some d) (hd : d < n) (hb : env d = .bool (!b))
  (h : AtR P f n R (o :: pre) rest k (updo env o.dst undef) w) : AtR P f n R pre (o :: rest) k env w :=
 AtR_skip (by simp [Region.wanted, hg, yielded_gslot hj hd hb]) h
def After (P : Program) (f : Fm) (n : Nat) (R : Ending → World → Prop) (pre : List Oper) (o : Oper) (rest : List Oper) (k : List Item) (env : Env) : Result Next → Prop
 | .ok (.value v) w => AtR P f n R (o :: pre) rest k (updo env o.dst v) w
 | .ok .skip w => AtR P f n R (o :: pre) rest k (updo env o.dst undef) w
 | .ok (.enter g args) w => Calls P g args w fun
   | .returned v, w' => AtR P f n R (o :: pre) rest k (updo env o.dst v) w'
   | _, _ => False
 | .ok (.row row args) w => Rows P row args w fun v w' => AtR P f n R (o :: pre) rest k (updo env o.dst v) w'
 | _ => False
theorem AtG_after {pre rest : List Oper} {o : Oper} (h : After P f n R pre o rest k env ((execOp (ev n env) o).run P w)) : AtG P f n R pre o rest k env w := by
 intro hw
 unfold AtR
 rw [List.length_cons, range_cons]
 have ho : (pre.reverse ++ o :: rest).toArray[pre.length]? = some o := by
  simp
 have hg := fun cs => stepGR_op (P := P) (b := fr0 f) (a := mkF f n env) (k := k) (cs := cs) (w := w) (ops := (pre.reverse ++ o :: rest).toArray) (i := pre.length)
  (rest := List.range' (pre.length + 1) rest.length) ho hw
 simp only [eval_mkF] at hg
 have hfin : ∀ v, ((fr0 f).atR (mkF f n env) (.inRegion (pre.reverse ++ o :: rest).toArray (pre.length :: List.range' (pre.length + 1) rest.length) :: k)).finish v
   = (fr0 f).atR (mkF f n (updo env o.dst v)) (.inRegion (pre.reverse ++ o :: rest).toArray (List.range' (pre.length + 1) rest.length) :: k) := by
  intro v; rw [Frame.finish_atR, ho]; simp only [Option.bind_some, mkF_put]
 have hsem : (o.semAt f.round (ev n env)).run P w = (execOp (ev n env) o).run P w := by
  by_cases hd : ∃ c, o.op = .defer c
  ·exfalso
   obtain ⟨c, hc⟩ := hd
   have he : execOp (ev n env) o = (do let d ← resolve (ev n env) c o.type; pure (.defer d)) := by unfold execOp; rw [hc]
   rw [he, Sem.run_bind] at h
   cases hq : (resolve (ev n env) c o.type).run P w <;> rw [hq] at h <;> exact h
  ·rw [Oper.semAt_eq _ _ _ (fun c hc => hd ⟨c, hc⟩)]
 generalize hr0 : (execOp (ev n env) o).run P w = r at h
 have hr := hsem.trans hr0
 clear hsem hr0
 simp only [fr0_round] at hg
 cases r with
 | halt x w' => exact h.elim
 | ok x w' =>
  cases x <;> simp only [After] at h
  case value v =>
   refine At.step (fun cs => step_lone_go ?_) (AtR_shift h)
   rw [hg, ← hfin]; simp [stepG.apply, hr]
  case skip =>
   refine At.step (fun cs => step_lone_go ?_) (AtR_shift h)
   rw [hg, ← hfin]; simp [stepG.apply, hr]
  case enter g args =>
   intro cs
   obtain ⟨e, w'', fr, hR, hsteps, _, hleave⟩ := h ((fr0 f).atR (mkF f n env) (.inRegion (pre.reverse ++ o :: rest).toArray (pre.length :: List.range' (pre.length + 1) rest.length) :: k) :: cs)
   have henter : step P (lone ((fr0 f).atR (mkF f n env) (.inRegion (pre.reverse ++ o :: rest).toArray (pre.length :: List.range' (pre.length + 1) rest.length) :: k)) cs w) =
     .next (lone (Frame.enter P g args .normal) ((fr0 f).atR (mkF f n env) (.inRegion (pre.reverse ++ o :: rest).toArray (pre.length :: List.range' (pre.length + 1) rest.length) :: k) :: cs) w') :=
    step_lone_go (by rw [hg]; simp [stepG.apply, hr, Frame.atR])
   cases e with
   | panicked c => exact hR.elim
   | outgrown => exact hR.elim
   | returned v =>
    obtain ⟨e, w₃, fr', hR', hc', rest'⟩ := AtR_shift hR cs
    refine ⟨e, w₃, fr', hR', .of_steps (.head henter (hsteps.trans (.one ?_))) hc', rest'⟩
    rw [← hfin]; exact step_leave_returned hleave
  case row row args =>
   intro cs
   obtain ⟨v, w'', hR, hsteps⟩ := h ((fr0 f).atR (mkF f n env) (.inRegion (pre.reverse ++ o :: rest).toArray (pre.length :: List.range' (pre.length + 1) rest.length) :: k)) cs
   have henter : step P (lone ((fr0 f).atR (mkF f n env) (.inRegion (pre.reverse ++ o :: rest).toArray (pre.length :: List.range' (pre.length + 1) rest.length) :: k)) cs w) =
     .next (lone (Frame.ofRow P row args .normal) ((fr0 f).atR (mkF f n env) (.inRegion (pre.reverse ++ o :: rest).toArray (pre.length :: List.range' (pre.length + 1) rest.length) :: k) :: cs) w') :=
    step_lone_go (by rw [hg]; simp [stepG.apply, hr, Frame.atR])
   obtain ⟨e, w₃, fr', hR', hc', rest'⟩ := AtR_shift hR cs
   refine ⟨e, w₃, fr', hR', .of_steps (.head henter ?_) hc', rest'⟩
   rw [← hfin]; exact hsteps
  all_goals exact h.elim
def Run (P : Program) (n : Nat) (env : Env) (o : Oper) (w : World) (r : Result Next) : Prop := (execOp (ev n env) o).run P w = r
theorem AtG_value {pre rest : List Oper} {o : Oper} {v : Value} {w' : World} (hr : Run P n env o w (.ok (.value v) w'))
  (h : AtR P f n R (o :: pre) rest k (updo env o.dst v) w') : AtG P f n R pre o rest k env w :=
 AtG_after (by unfold Run at hr; rw [hr]; exact h)
theorem AtG_skip {pre rest : List Oper} {o : Oper} {w' : World} (hr : Run P n env o w (.ok .skip w'))
  (h : AtR P f n R (o :: pre) rest k (updo env o.dst undef) w') : AtG P f n R pre o rest k env w :=
 AtG_after (by unfold Run at hr; rw [hr]; exact h)
theorem AtG_call {pre rest : List Oper} {o : Oper} {g : FuncId} {args : Array Value} {w' : World} (hr : Run P n env o w (.ok (.enter g args) w'))
  (h : Calls P g args w' fun e w'' => ∃ v, e = .returned v ∧ AtR P f n R (o :: pre) rest k (updo env o.dst v) w'') : AtG P f n R pre o rest k env w :=
 AtG_after (by unfold Run at hr; rw [hr]; exact h.mono fun e w'' ⟨v, he, h'⟩ => by subst he; exact h')
theorem s_val {pre rest : List Oper} {d : Tmp} {op : Op} {ty : TypeId} {pos : String} {aft : Array Edge} {v : Value} {w' : World}
  (hr : Run P n env ⟨some d, op, ty, pos, aft, none⟩ w (.ok (.value v) w'))
  (h : AtR P f n R (⟨some d, op, ty, pos, aft, none⟩ :: pre) rest k (upd env d v) w') : AtR P f n R pre (⟨some d, op, ty, pos, aft, none⟩ :: rest) k env w :=
 AtR_go rfl (AtG_value hr h)
theorem g_val {pre rest : List Oper} {d : Tmp} {op : Op} {ty : TypeId} {pos : String} {aft : Array Edge} {g : Option (Nat × Bool)} {v : Value} {w' : World}
  (hr : Run P n env ⟨some d, op, ty, pos, aft, g⟩ w (.ok (.value v) w'))
  (h : AtR P f n R (⟨some d, op, ty, pos, aft, g⟩ :: pre) rest k (upd env d v) w') : AtG P f n R pre ⟨some d, op, ty, pos, aft, g⟩ rest k env w :=
 AtG_value hr h
theorem s_call {pre rest : List Oper} {d : Tmp} {op : Op} {ty : TypeId} {pos : String} {aft : Array Edge} {gf : FuncId} {args : Array Value} {w' : World}
  (hr : Run P n env ⟨some d, op, ty, pos, aft, none⟩ w (.ok (.enter gf args) w')) {Q : Ending → World → Prop}
  (hc : Calls P gf args w' Q)
  (h : ∀ e w'', Q e w'' → ∃ v, e = .returned v ∧ AtR P f n R (⟨some d, op, ty, pos, aft, none⟩ :: pre) rest k (upd env d v) w'') : AtR P f n R pre (⟨some d, op, ty, pos, aft, none⟩ :: rest) k env w :=
 AtR_go rfl (AtG_call hr (hc.mono h))
theorem g_call {pre rest : List Oper} {d : Tmp} {op : Op} {ty : TypeId} {pos : String} {aft : Array Edge} {g : Option (Nat × Bool)} {gf : FuncId} {args : Array Value} {w' : World}
  (hr : Run P n env ⟨some d, op, ty, pos, aft, g⟩ w (.ok (.enter gf args) w')) {Q : Ending → World → Prop}
  (hc : Calls P gf args w' Q)
  (h : ∀ e w'', Q e w'' → ∃ v, e = .returned v ∧ AtR P f n R (⟨some d, op, ty, pos, aft, g⟩ :: pre) rest k (upd env d v) w'') : AtG P f n R pre ⟨some d, op, ty, pos, aft, g⟩ rest k env w :=
 AtG_call hr (hc.mono h)
theorem s_no {pre rest : List Oper} {d : Tmp} {op : Op} {ty : TypeId} {pos : String} {aft : Array Edge} {j : Nat} {b b' : Bool} {dg : Nat} (hj : gslot pre j = some dg) (hd : Nat.blt dg n = true)
  (hb : env dg = .bool b') (hne : (b == b') = false)
  (h : AtR P f n R (⟨some d, op, ty, pos, aft, some (j, b)⟩ :: pre) rest k (upd env d undef) w) : AtR P f n R pre (⟨some d, op, ty, pos, aft, some (j, b)⟩ :: rest) k env w :=
 AtR_no j b dg rfl hj (by simpa [Nat.blt_eq] using hd) (by cases b <;> cases b' <;> simp_all) h
theorem s_nou {pre rest : List Oper} {d : Tmp} {op : Op} {ty : TypeId} {pos : String} {aft : Array Edge} {j : Nat} {b : Bool} {dg : Nat} (hj : gslot pre j = some dg) (hd : Nat.blt dg n = true)
  (hb : env dg = undef)
  (h : AtR P f n R (⟨some d, op, ty, pos, aft, some (j, b)⟩ :: pre) rest k (upd env d undef) w) : AtR P f n R pre (⟨some d, op, ty, pos, aft, some (j, b)⟩ :: rest) k env w := by
 have hd : dg < n := by simpa [Nat.blt_eq] using hd
 refine AtR_skip ?_ h
 have hlt : j < pre.reverse.length := by
  rcases Nat.lt_or_ge j pre.reverse.length with h | h
  ·exact h
  ·unfold gslot at hj; rw [List.getElem?_eq_none h] at hj; simp at hj
 have h1 : (pre.reverse ++ (⟨some d, op, ty, pos, aft, some (j, b)⟩ : Oper) :: rest).toArray[j]? = pre.reverse[j]? := by
  simp only [List.getElem?_toArray]
  rw [List.getElem?_append_left hlt]
 unfold gslot at hj
 simp only [Region.wanted, yielded, h1, hj, Option.bind_some, mkA_get? n env dg hd, hb, undef]
 rfl
theorem s_yes {pre rest : List Oper} {dst : Option Tmp} {op : Op} {ty : TypeId} {pos : String} {aft : Array Edge} {j : Nat} {b b' : Bool} {dg : Nat} (hj : gslot pre j = some dg) (hd : Nat.blt dg n = true)
  (hb : env dg = .bool b') (he : (b == b') = true)
  (h : AtG P f n R pre ⟨dst, op, ty, pos, aft, some (j, b)⟩ rest k env w) : AtR P f n R pre (⟨dst, op, ty, pos, aft, some (j, b)⟩ :: rest) k env w :=
 AtR_yes j b dg rfl hj (by simpa [Nat.blt_eq] using hd) (by cases b <;> cases b' <;> simp_all) h
theorem s_cmp {pre rest : List Oper} {d : Tmp} {op : Op} {ty : TypeId} {pos : String} {aft : Array Edge} {p : Prop} [Decidable p] {w' : World}
  (hr : Run P n env ⟨some d, op, ty, pos, aft, none⟩ w (.ok (.value (.bool (decide p))) w')) (hp : p)
  (h : AtR P f n R (⟨some d, op, ty, pos, aft, none⟩ :: pre) rest k (upd env d (.bool true)) w') : AtR P f n R pre (⟨some d, op, ty, pos, aft, none⟩ :: rest) k env w :=
 AtR_go rfl (AtG_value (by rw [decide_eq_true hp] at hr; exact hr) h)
theorem s_cmpn {pre rest : List Oper} {d : Tmp} {op : Op} {ty : TypeId} {pos : String} {aft : Array Edge} {p : Prop} [Decidable p] {w' : World}
  (hr : Run P n env ⟨some d, op, ty, pos, aft, none⟩ w (.ok (.value (.bool (decide p))) w')) (hp : ¬ p)
  (h : AtR P f n R (⟨some d, op, ty, pos, aft, none⟩ :: pre) rest k (upd env d (.bool false)) w') : AtR P f n R pre (⟨some d, op, ty, pos, aft, none⟩ :: rest) k env w :=
 AtR_go rfl (AtG_value (by rw [decide_eq_false hp] at hr; exact hr) h)
theorem s_bool {pre rest : List Oper} {d : Tmp} {op : Op} {ty : TypeId} {pos : String} {aft : Array Edge} {p bv : Bool} {w' : World}
  (hr : Run P n env ⟨some d, op, ty, pos, aft, none⟩ w (.ok (.value (.bool p)) w')) (hp : p = bv)
  (h : AtR P f n R (⟨some d, op, ty, pos, aft, none⟩ :: pre) rest k (upd env d (.bool bv)) w') : AtR P f n R pre (⟨some d, op, ty, pos, aft, none⟩ :: rest) k env w := by
 subst hp; exact s_val hr h
theorem g_bool {pre rest : List Oper} {d : Tmp} {op : Op} {ty : TypeId} {pos : String} {aft : Array Edge} {g : Option (Nat × Bool)} {p bv : Bool} {w' : World}
  (hr : Run P n env ⟨some d, op, ty, pos, aft, g⟩ w (.ok (.value (.bool p)) w')) (hp : p = bv)
  (h : AtR P f n R (⟨some d, op, ty, pos, aft, g⟩ :: pre) rest k (upd env d (.bool bv)) w') : AtG P f n R pre ⟨some d, op, ty, pos, aft, g⟩ rest k env w := by
 subst hp; exact g_val hr h
theorem s_split {pre rest : List Oper} {d : Tmp} {op : Op} {ty : TypeId} {pos : String} {aft : Array Edge} {p : Prop} [Decidable p] {w' : World}
  (hr : Run P n env ⟨some d, op, ty, pos, aft, none⟩ w (.ok (.value (.bool (decide p))) w'))
  (h1 : p → AtR P f n R (⟨some d, op, ty, pos, aft, none⟩ :: pre) rest k (upd env d (.bool true)) w')
  (h2 : ¬ p → AtR P f n R (⟨some d, op, ty, pos, aft, none⟩ :: pre) rest k (upd env d (.bool false)) w') : AtR P f n R pre (⟨some d, op, ty, pos, aft, none⟩ :: rest) k env w := by
 by_cases hp : p
 ·exact s_cmp hr hp (h1 hp)
 ·exact s_cmpn hr hp (h2 hp)
theorem g_cmp {pre rest : List Oper} {d : Tmp} {op : Op} {ty : TypeId} {pos : String} {aft : Array Edge} {g : Option (Nat × Bool)} {p : Prop} [Decidable p] {w' : World}
  (hr : Run P n env ⟨some d, op, ty, pos, aft, g⟩ w (.ok (.value (.bool (decide p))) w')) (hp : p)
  (h : AtR P f n R (⟨some d, op, ty, pos, aft, g⟩ :: pre) rest k (upd env d (.bool true)) w') : AtG P f n R pre ⟨some d, op, ty, pos, aft, g⟩ rest k env w :=
 AtG_value (by rw [decide_eq_true hp] at hr; exact hr) h
theorem g_cmpn {pre rest : List Oper} {d : Tmp} {op : Op} {ty : TypeId} {pos : String} {aft : Array Edge} {g : Option (Nat × Bool)} {p : Prop} [Decidable p] {w' : World}
  (hr : Run P n env ⟨some d, op, ty, pos, aft, g⟩ w (.ok (.value (.bool (decide p))) w')) (hp : ¬ p)
  (h : AtR P f n R (⟨some d, op, ty, pos, aft, g⟩ :: pre) rest k (upd env d (.bool false)) w') : AtG P f n R pre ⟨some d, op, ty, pos, aft, g⟩ rest k env w :=
 AtG_value (by rw [decide_eq_false hp] at hr; exact hr) h
theorem g_split {pre rest : List Oper} {d : Tmp} {op : Op} {ty : TypeId} {pos : String} {aft : Array Edge} {g : Option (Nat × Bool)} {p : Prop} [Decidable p] {w' : World}
  (hr : Run P n env ⟨some d, op, ty, pos, aft, g⟩ w (.ok (.value (.bool (decide p))) w'))
  (h1 : p → AtR P f n R (⟨some d, op, ty, pos, aft, g⟩ :: pre) rest k (upd env d (.bool true)) w')
  (h2 : ¬ p → AtR P f n R (⟨some d, op, ty, pos, aft, g⟩ :: pre) rest k (upd env d (.bool false)) w') : AtG P f n R pre ⟨some d, op, ty, pos, aft, g⟩ rest k env w := by
 by_cases hp : p
 ·exact g_cmp hr hp (h1 hp)
 ·exact g_cmpn hr hp (h2 hp)
theorem At_ret1 {fn : Func} {t : Tmp} {v : Value} (hf : P.funcs[f.fn]? = some fn) (hr : fn.results = #[.tmp t]) (hv : ev n env (.tmp t) = v) (h : R (.returned v) w) (h0 : f.round = none := by rfl) (h1 : f.ds = [] := by rfl) :
  At P f n R (.code .ret :: k) env w := by
 refine At_ret hf ?_ h h0 h1
 rw [results_tmp hr]
 have := congrFun (eval_mkA n env) (.tmp t)
 rw [← hv, ← this]; rfl
theorem At_ret2 {fn : Func} {t u : Tmp} {v v2 : Value} (hf : P.funcs[f.fn]? = some fn) (hr : fn.results = #[.tmp t, .tmp u]) (hv : ev n env (.tmp t) = v) (hv2 : ev n env (.tmp u) = v2)
  (h : R (.returned (.tuple #[v, v2])) w) (h0 : f.round = none := by rfl) (h1 : f.ds = [] := by rfl) : At P f n R (.code .ret :: k) env w := by
 refine At_ret hf ?_ h h0 h1
 rw [results_tmp2 hr]
 have g1 := congrFun (eval_mkA n env) (.tmp t)
 have g2 := congrFun (eval_mkA n env) (.tmp u)
 rw [← hv, ← hv2, ← g1, ← g2]; rfl
theorem At_ret0 {fn : Func} (hf : P.funcs[f.fn]? = some fn) (hr : fn.results = #[]) (h : R (.returned (.tuple #[])) w) (h0 : f.round = none := by rfl) (h1 : f.ds = [] := by rfl) : At P f n R (.code .ret :: k) env w :=
 At_ret hf (results_none hr _ _ _) h h0 h1
theorem At_end0 {fn : Func} (hf : P.funcs[f.fn]? = some fn) (hr : fn.results = #[]) (h : R (.returned (.tuple #[])) w) (h0 : f.round = none := by rfl) (h1 : f.ds = [] := by rfl) : At P f n R [] env w :=
 At_end hf (results_none hr _ _ _) h h0 h1
end
def Live (env : Env) : List (Nat × Value) → Prop
 | [] => True
 | (d, v) :: l => env d = v ∧ Live env l
def upds (env : Env) : List (Nat × Value) → Env
 | [] => env
 | (d, v) :: l => upd (upds env l) d v
theorem env_as (env : Env) : ∀ (l : List (Nat × Value)), Live env l → env = upds env l
 | [], _ => rfl
 | (d, v) :: l, h => by
  have ih := env_as env l h.2
  have hd : env d = v := h.1
  simp only [upds]
  rw [← ih]
  funext i
  by_cases hi : i = d
  ·subst hi; rw [upd_same, hd]
  ·rw [upd_ne _ _ _ _ hi]
theorem At_while {P : Program} {f : Fm} {n : Nat} {R : Ending → World → Prop} {k : List Item} {env : Env} {w : World} {c : Code} {σ : Type} (live : σ → List (Nat × Value)) (I : σ → World → Prop) (μ : σ → Nat) (s : σ)
  (hl : Live env (live s)) (hI : I s w)
  (step : ∀ s w junk, I s w → (∀ s' w' env', Live env' (live s') → I s' w' → μ s' < μ s → At P f n R (.inLoop c :: k) env' w') →
   At P f n R (.code c :: .inLoop c :: k) (upds junk (live s)) w) :
  At P f n R (.code (.loop c) :: k) env w := by
 have key : ∀ m s w env, μ s = m → Live env (live s) → I s w → At P f n R (.code c :: .inLoop c :: k) env w := by
  intro m
  induction m using Nat.strongRecOn with
  | _ m ih =>
   intro s w env hm hl hI
   rw [env_as env _ hl]
   exact step s w env hI fun s' w' env' hl' hI' hlt => At_inLoop (ih (μ s') (hm ▸ hlt) s' w' env' rfl hl' hI')
 exact At_loop (key _ s w env rfl hl hI)
theorem At_meet {P : Program} {f : Fm} {n : Nat} {R : Ending → World → Prop} {k : List Item} {env : Env} {w : World} {x : Item} {σ : Type} (live : σ → List (Nat × Value)) (I : σ → World → Prop)
  (next : ∀ s w junk, I s w → At P f n R k (upds junk (live s)) w)
  (h : (∀ s w' env', Live env' (live s) → I s w' → At P f n R k env' w') → At P f n R (x :: k) env w) : At P f n R (x :: k) env w :=
 h fun s w' env' hl hI => by rw [env_as env' _ hl]; exact next s w' env' hI
attribute [irreducible] At AtR AtG Run
end Go.Kx
namespace Go.Kx
open Go
class TU (P : Program) (T : TypeId) (d : outParam TypeDesc) : Prop where
 h : P.underlying T = some d
class TSz (P : Program) (T : TypeId) (s : outParam Nat) : Prop where
 h : (P.info? T).map (·.size) = some s
class TBy (P : Program) (T : TypeId) (s : outParam Nat) : Prop where
 h : (P.info? T).map (·.bytes) = some s
class TZ (P : Program) (T : TypeId) (z : outParam Value) : Prop where
 h : (P.info? T).map (·.zero) = some (some z)
class TOne (P : Program) (T : TypeId) : Prop where
 h : ∃ d, P.underlying T = some d ∧ (match d with | .struct _ | .array _ _ => false | _ => true) = true
class TAgg (P : Program) (T : TypeId) (s : outParam Nat) : Prop where
 h : ∃ d, P.underlying T = some d ∧ (match d with | .struct _ | .array _ _ => true | _ => false) = true
 hs : (P.info? T).map (·.size) = some s
class TFld (P : Program) (T : TypeId) (i : Nat) (off : outParam Nat) : Prop where
 h : ∃ fs fd, P.underlying T = some (.struct fs) ∧ fs[i]? = some fd ∧ fd.offset = off ∧ ((P.info? fd.type).map (·.size) = some 0) = False ∧ (P.info? fd.type).isSome = true
def Blk (w : World) (b : Nat) (E : TypeId) (fz : Nat × Nat) (cs : List Value) : Prop := w.heap[b]? = some (.cells cs.toArray E fz)
section
variable {P : Program} {n : Nat} {env : Env} {w : World} {dst : Option Tmp} {ty : TypeId} {pos : String} {aft : Array Edge} {g : Option (Nat × Bool)}
theorem x_move {x : Operand} {v : Value} (hx : ev n env x = v) : Run P n env ⟨dst, .move x, ty, pos, aft, g⟩ w (.ok (.value v) w) := by
 unfold Run
 simp [execOp, hx]
theorem x_assign {x : Operand} {v : Value} (hx : ev n env x = v) : Run P n env ⟨dst, .assign x, ty, pos, aft, g⟩ w (.ok (.value v) w) := by
 unfold Run
 simp [execOp, hx]
theorem x_pick {c x y : Operand} {b : Bool} (hc : ev n env c = .bool b) : Run P n env ⟨dst, .pick c x y, ty, pos, aft, g⟩ w (.ok (.value (bif b then ev n env x else ev n env y)) w) := by
 unfold Run
 cases b <;> simp [execOp, hc, asBool]
theorem x_pick_t {c x y : Operand} {v : Value} (hc : ev n env c = .bool true) (hx : ev n env x = v) : Run P n env ⟨dst, .pick c x y, ty, pos, aft, g⟩ w (.ok (.value v) w) := by
 subst hx; exact x_pick hc
theorem x_pick_f {c x y : Operand} {v : Value} (hc : ev n env c = .bool false) (hx : ev n env y = v) : Run P n env ⟨dst, .pick c x y, ty, pos, aft, g⟩ w (.ok (.value v) w) := by
 subst hx; exact x_pick hc
theorem x_extract {x : Operand} {i : Nat} {vs : List Value} {v : Value} (hx : ev n env x = .tuple vs.toArray) (hv : vs[i]? = some v) :
  Run P n env ⟨dst, .extract x i, ty, pos, aft, g⟩ w (.ok (.value v) w) := by
 unfold Run
 simp [execOp, hx, Instr.extract, hv]
theorem x_nilCheck {x : Operand} {a : Addr} (hx : ev n env x = .pointer (some a)) :
  Run P n env ⟨dst, .nilCheck x, ty, pos, aft, g⟩ w (.ok (.value (.pointer (some a))) w) := by
 unfold Run
 simp [execOp, hx]
theorem x_not {x : Operand} {T : TypeId} {b : Bool} (hx : ev n env x = .bool b) :
  Run P n env ⟨dst, .unOp .not T x, ty, pos, aft, g⟩ w (.ok (.value (.bool (!b))) w) := by
 unfold Run
 simp [execOp, hx, go_sem]
theorem x_add {x y : Operand} {T T' : TypeId} {k : IntKind} {a b : Int} (hx : ev n env x = .int k a) (hy : ev n env y = .int k b) :
  Run P n env ⟨dst, .binOp .add T x y T', ty, pos, aft, g⟩ w (.ok (.value (.int k (k.wrap (a + b)))) w) := by
 unfold Run
 simp [execOp, hx, hy, eqGuard_add, binOp_add, Op.intArith]
theorem x_sub {x y : Operand} {T T' : TypeId} {k : IntKind} {a b : Int} (hx : ev n env x = .int k a) (hy : ev n env y = .int k b) :
  Run P n env ⟨dst, .binOp .sub T x y T', ty, pos, aft, g⟩ w (.ok (.value (.int k (k.wrap (a - b)))) w) := by
 unfold Run
 simp [execOp, hx, hy, eqGuard_sub, binOp_sub, Op.intArith]
theorem x_mul {x y : Operand} {T T' : TypeId} {k : IntKind} {a b : Int} (hx : ev n env x = .int k a) (hy : ev n env y = .int k b) :
  Run P n env ⟨dst, .binOp .mul T x y T', ty, pos, aft, g⟩ w (.ok (.value (.int k (k.wrap (a * b)))) w) := by
 unfold Run
 simp [execOp, hx, hy, eqGuard_mul, binOp_mul, Op.intArith]
theorem x_lss {x y : Operand} {T T' : TypeId} {k : IntKind} {a b : Int} (hx : ev n env x = .int k a) (hy : ev n env y = .int k b) :
  Run P n env ⟨dst, .binOp .lss T x y T', ty, pos, aft, g⟩ w (.ok (.value (.bool (decide (a < b)))) w) := by
 unfold Run
 simp [execOp, hx, hy, eqGuard_lss, binOp_lss]
theorem x_leq {x y : Operand} {T T' : TypeId} {k : IntKind} {a b : Int} (hx : ev n env x = .int k a) (hy : ev n env y = .int k b) :
  Run P n env ⟨dst, .binOp .leq T x y T', ty, pos, aft, g⟩ w (.ok (.value (.bool (decide (a ≤ b)))) w) := by
 unfold Run
 simp [execOp, hx, hy, eqGuard_leq, binOp_leq]
theorem x_gtr {x y : Operand} {T T' : TypeId} {k : IntKind} {a b : Int} (hx : ev n env x = .int k a) (hy : ev n env y = .int k b) :
  Run P n env ⟨dst, .binOp .gtr T x y T', ty, pos, aft, g⟩ w (.ok (.value (.bool (decide (b < a)))) w) := by
 unfold Run
 simp [execOp, hx, hy, eqGuard_gtr, binOp_gtr]
theorem x_geq {x y : Operand} {T T' : TypeId} {k : IntKind} {a b : Int} (hx : ev n env x = .int k a) (hy : ev n env y = .int k b) :
  Run P n env ⟨dst, .binOp .geq T x y T', ty, pos, aft, g⟩ w (.ok (.value (.bool (decide (b ≤ a)))) w) := by
 unfold Run
 simp [execOp, hx, hy, eqGuard_geq, binOp_geq]
theorem x_eql {x y : Operand} {T T' : TypeId} {k : IntKind} {a b : Int} (hx : ev n env x = .int k a) (hy : ev n env y = .int k b) :
  Run P n env ⟨dst, .binOp .eql T x y T', ty, pos, aft, g⟩ w (.ok (.value (.bool (decide (a = b)))) w) := by
 unfold Run
 simp [execOp, hx, hy, eqGuard_at_int, binOp_eql]; rfl
theorem x_neq {x y : Operand} {T T' : TypeId} {k : IntKind} {a b : Int} (hx : ev n env x = .int k a) (hy : ev n env y = .int k b) :
  Run P n env ⟨dst, .binOp .neq T x y T', ty, pos, aft, g⟩ w (.ok (.value (.bool (decide (a ≠ b)))) w) := by
 unfold Run
 have : (a != b) = decide (a ≠ b) := by by_cases h : a = b <;> simp [h]
 simp [execOp, hx, hy, eqGuard_at_int, binOp_neq, this]
theorem x_quo {x y : Operand} {T T' : TypeId} {k : IntKind} {a b : Int} (hx : ev n env x = .int k a) (hy : ev n env y = .int k b) (hb : b ≠ 0) :
  Run P n env ⟨dst, .binOp .quo T x y T', ty, pos, aft, g⟩ w (.ok (.value (.int k (k.wrap (a.tdiv b)))) w) := by
 unfold Run
 simp [execOp, hx, hy, eqGuard_quo, binOp_quo, Op.intDiv, hb]
theorem x_rem {x y : Operand} {T T' : TypeId} {k : IntKind} {a b : Int} (hx : ev n env x = .int k a) (hy : ev n env y = .int k b) (hb : b ≠ 0) :
  Run P n env ⟨dst, .binOp .rem T x y T', ty, pos, aft, g⟩ w (.ok (.value (.int k (a.tmod b))) w) := by
 unfold Run
 simp [execOp, hx, hy, eqGuard_rem, binOp_rem, Op.intDiv, hb]
theorem x_eql_bool {x y : Operand} {T T' : TypeId} {a b : Bool} (hx : ev n env x = .bool a) (hy : ev n env y = .bool b) [hT : TU P T .bool] :
  Run P n env ⟨dst, .binOp .eql T x y T', ty, pos, aft, g⟩ w (.ok (.value (.bool (a == b))) w) := by
 unfold Run
 cases a <;> cases b <;> simp [execOp, hx, hy, eqGuard_at_bool, run_eql_bool, hT.h]
theorem x_neq_bool {x y : Operand} {T T' : TypeId} {a b : Bool} (hx : ev n env x = .bool a) (hy : ev n env y = .bool b) [hT : TU P T .bool] :
  Run P n env ⟨dst, .binOp .neq T x y T', ty, pos, aft, g⟩ w (.ok (.value (.bool (a != b))) w) := by
 unfold Run
 cases a <;> cases b <;> simp [execOp, hx, hy, eqGuard_at_bool, run_neq_bool, hT.h] <;> rfl
theorem x_convert {S T : TypeId} {x : Operand} {k k' ks : IntKind} {a : Int} [hS : TU P S (.int ks)] [hT : TU P T (.int k')] (hx : ev n env x = .int k a) :
  Run P n env ⟨dst, .convert S T x, ty, pos, aft, g⟩ w (.ok (.value (.int k' (k'.wrap a))) w) := by
 unfold Run
 simp [execOp, hx, convert, run_underlying hS.h, run_underlying hT.h, Conv.intToInt]
theorem x_len_slice {T : TypeId} {x : Operand} {a : Option Addr} {l c : Nat} {E : TypeId} [hT : TU P T (.slice E)] (hx : ev n env x = .slice a l c) :
  Run P n env ⟨dst, .call ⟨.builtin .len, #[x], #[T]⟩, ty, pos, aft, g⟩ w (.ok (.value (.int .i64 l)) w) := by
 unfold Run
 simp [execOp, hx, resolve, invoke, builtin, run_underlying hT.h, Builtin.len_, goInt]
theorem x_len_string {T : TypeId} {x : Operand} {s : ByteArray} [hT : TU P T .string] (hx : ev n env x = .string s) :
  Run P n env ⟨dst, .call ⟨.builtin .len, #[x], #[T]⟩, ty, pos, aft, g⟩ w (.ok (.value (.int .i64 s.size)) w) := by
 unfold Run
 simp [execOp, hx, resolve, invoke, builtin, run_underlying hT.h, Builtin.len_, goInt]
theorem x_len_array {T : TypeId} {x : Operand} {m : Nat} {E : TypeId} [hT : TU P T (.array m E)] :
  Run P n env ⟨dst, .call ⟨.builtin .len, #[x], #[T]⟩, ty, pos, aft, g⟩ w (.ok (.value (.int .i64 m)) w) := by
 unfold Run
 cases h : ev n env x <;> simp [execOp, h, resolve, invoke, builtin, run_underlying hT.h, Builtin.len_, goInt]
class TFn (P : Program) (f : FuncId) : Prop where
 h : ∃ fn, P.funcs[f]? = some fn ∧ (fn.name == "runtime.NumGoroutine") = false ∧ fn.body.isNone = false
theorem run_callFunc {gf : FuncId} [hF : TFn P gf] (args : Array Value) : (callFunc gf args).run P w = .ok (.enter gf args) w := by
 obtain ⟨fn, h1, h2, h3⟩ := hF.h
 have h2' : ¬ fn.name = "runtime.NumGoroutine" := by simpa using h2
 have h3' : ¬ fn.body = none := by intro e; simp [e] at h3
 simp [callFunc, h1, h2', h3']
theorem x_call {xs : List Operand} {ts : Array TypeId} {gf : FuncId} [TFn P gf] :
  Run P n env ⟨dst, .call ⟨.value (.func gf), xs.toArray, ts⟩, ty, pos, aft, g⟩ w (.ok (.enter gf (xs.map (ev n env)).toArray) w) := by
 unfold Run
 simp [execOp, resolve, invoke, ev, Deferred.ofValue, run_callFunc]
theorem add_none (b off j : Nat) : (⟨b, off, none⟩ : Addr).add j = ⟨b, off + j, none⟩ := by
 unfold Addr.add; split
 ·simp_all
 ·rfl
theorem Blk.cell {b : Nat} {E : TypeId} {fz : Nat × Nat} {cs : List Value} (h : Blk w b E fz cs) (j : Nat) : w.cell? ⟨b, j, none⟩ = cs[j]? := by
 unfold Blk at h
 simp [World.cell?, h]
theorem Blk.lt {b : Nat} {E : TypeId} {fz : Nat × Nat} {cs : List Value} (h : Blk w b E fz cs) : b < w.heap.size := by
 unfold Blk at h
 exact (Array.getElem?_eq_some_iff.1 h).1
theorem run_isAgg_one {T : TypeId} [h : TOne P T] : (isAgg T).run P w = .ok false w := by
 obtain ⟨d, hd, hm⟩ := h.h
 unfold isAgg
 rw [Sem.run_bind, run_underlying hd w]
 cases d <;> simp_all
theorem run_isAgg_agg {T : TypeId} {s : Nat} [h : TAgg P T s] : (isAgg T).run P w = .ok true w := by
 obtain ⟨d, hd, hm⟩ := h.h
 unfold isAgg
 rw [Sem.run_bind, run_underlying hd w]
 cases d <;> simp_all
theorem run_sizeOf {T : TypeId} {s : Nat} (h : (P.info? T).map (·.size) = some s) : (sizeOf T).run P w = .ok s w := by
 cases hq : P.info? T with
 | none => simp [hq] at h
 | some i => simp [hq] at h; simp [sizeOf, typeInfo, hq, h]
theorem run_zeroValue {T : TypeId} {z : Value} [h : TZ P T z] : (zeroValue T).run P w = .ok z w := by
 have h := h.h
 cases hq : P.info? T with
 | none => simp [hq] at h
 | some i => simp [hq] at h; simp [zeroValue, typeInfo, hq, h]
theorem run_loadVar_one {T : TypeId} [TOne P T] {b off : Nat} {E : TypeId} {fz : Nat × Nat} {cs : List Value} {v : Value} (hb : Blk w b E fz cs) (hv : cs[off]? = some v) :
  (loadVar T ⟨b, off, none⟩).run P w = .ok v w := by
 have hc := hb.cell off
 rw [hv] at hc
 simp [loadVar, run_isAgg_one, hc]
theorem run_loadVar_agg {T : TypeId} {s : Nat} [hT : TAgg P T s] {b off : Nat} {E : TypeId} {fz : Nat × Nat} {cs vs : List Value} (hb : Blk w b E fz cs) (hl : vs.length = s)
  (hv : ∀ j, j < s → cs[off + j]? = vs[j]?) :
  (loadVar T ⟨b, off, none⟩).run P w = .ok (.agg vs.toArray) w := by
 have h := run_loadCells_list (P := P) w ⟨b, off, none⟩ vs (fun j v hj => by
  have hlt : j < s := by
   rcases Nat.lt_or_ge j vs.length with h | h
   ·omega
   ·rw [List.getElem?_eq_none h] at hj; simp at hj
  rw [add_none, hb.cell, hv j hlt, hj])
 rw [hl] at h
 simp [loadVar, run_isAgg_agg, run_sizeOf hT.hs, h]
theorem x_load1 {T : TypeId} [TOne P T] {x : Operand} {b off : Nat} {E : TypeId} {fz : Nat × Nat} {cs : List Value} {v : Value} (hx : ev n env x = .pointer (some ⟨b, off, none⟩))
  (hb : Blk w b E fz cs) (hv : cs[off]? = some v) :
  Run P n env ⟨dst, .load T x, ty, pos, aft, g⟩ w (.ok (.value v) w) := by
 unfold Run
 simp [execOp, hx, Instr.loadAt, Instr.sureAddr, run_loadVar_one hb hv]
theorem x_loadN {T : TypeId} {s : Nat} [hT : TAgg P T s] {x : Operand} {b off : Nat} {E : TypeId} {fz : Nat × Nat} {cs vs : List Value} (hx : ev n env x = .pointer (some ⟨b, off, none⟩))
  (hb : Blk w b E fz cs) (hl : vs.length = s) (hv : ∀ j, j < s → cs[off + j]? = vs[j]?) :
  Run P n env ⟨dst, .load T x, ty, pos, aft, g⟩ w (.ok (.value (.agg vs.toArray)) w) := by
 unfold Run
 simp [execOp, hx, Instr.loadAt, Instr.sureAddr, run_loadVar_agg hb hl hv]
theorem x_fieldAddr {T : TypeId} {i o : Nat} [hT : TFld P T i o] {x : Operand} {b off : Nat} (hx : ev n env x = .pointer (some ⟨b, off, none⟩)) :
  Run P n env ⟨dst, .fieldAddr T x i, ty, pos, aft, g⟩ w (.ok (.value (.pointer (some ⟨b, off + o, none⟩))) w) := by
 unfold Run
 obtain ⟨fs, fd, h1, h2, h3, h4, h5⟩ := hT.h
 cases hq : P.info? fd.type with
 | none => simp [hq] at h5
 | some inf =>
  have hne : inf.size ≠ 0 := by intro e; simp [hq, e] at h4
  simp [execOp, hx, Instr.fieldAt, run_underlying h1, h2, Instr.sureAddr, fieldPlace, run_sizeOf (P := P) (T := fd.type) (s := inf.size) (by simp [hq]), hne, add_none, h3]
theorem x_fieldAddrN {T : TypeId} {i o : Nat} [hT : TFld P T i o] {x : Operand} {b off off' : Nat} (hx : ev n env x = .pointer (some ⟨b, off, none⟩)) (ho : off + o = off') :
  Run P n env ⟨dst, .fieldAddr T x i, ty, pos, aft, g⟩ w (.ok (.value (.pointer (some ⟨b, off', none⟩))) w) := by
 subst ho; exact x_fieldAddr hx
theorem x_indexAddr {T E : TypeId} {s : Nat} [hT : TU P T (.slice E)] [hs : TSz P E s] {x ix : Operand} {b off len cap : Nat} {k : IntKind} {i : Int}
  (hx : ev n env x = .slice (some ⟨b, off, none⟩) len cap) (hi : ev n env ix = .int k i) (h0 : 0 ≤ i) (h1 : i < len) :
  Run P n env ⟨dst, .indexAddr T x ix, ty, pos, aft, g⟩ w (.ok (.value (.pointer (some ⟨b, off + i.toNat * s, none⟩))) w) := by
 unfold Run
 simp [execOp, hx, hi, Instr.indexAt, asIntOf, run_underlying hT.h, h0, h1, run_sizeOf hs.h, add_none]
theorem x_indexAddr_arr {T E : TypeId} {m s : Nat} [hT : TU P T (.array m E)] [hs : TSz P E s] {x ix : Operand} {b off : Nat} {k : IntKind} {i : Int}
  (hx : ev n env x = .pointer (some ⟨b, off, none⟩)) (hi : ev n env ix = .int k i) (h0 : 0 ≤ i) (h1 : i < m) :
  Run P n env ⟨dst, .indexAddr T x ix, ty, pos, aft, g⟩ w (.ok (.value (.pointer (some ⟨b, off + i.toNat * s, none⟩))) w) := by
 unfold Run
 simp [execOp, hx, hi, Instr.indexAt, asIntOf, run_underlying hT.h, h0, h1, run_sizeOf hs.h, add_none, Instr.sureAddr]
structure Eff (w w' : World) (b : Nat) (o : Obj) : Prop where
 os : w'.os = w.os
 tape : w'.tape = w.tape
 output : w'.output = w.output
 size : w.heap.size ≤ w'.heap.size
 lt : b < w'.heap.size
 here : w'.heap[b]? = some o
 other : ∀ j, j ≠ b → j < w.heap.size → w'.heap[j]? = w.heap[j]?
structure Kp (S : Nat → Prop) (w w' : World) : Prop where
 os : w'.os = w.os
 tape : w'.tape = w.tape
 output : w'.output = w.output
 size : w.heap.size ≤ w'.heap.size
 keep : ∀ j, ¬ S j → j < w.heap.size → w'.heap[j]? = w.heap[j]?
def No : Nat → Prop := fun _ => False
theorem Kp.refl (S : Nat → Prop) (w : World) : Kp S w w := ⟨rfl, rfl, rfl, Nat.le_refl _, fun _ _ _ => rfl⟩
theorem Kp.trans {S : Nat → Prop} {a b c : World} (h : Kp S a b) (h' : Kp S b c) : Kp S a c :=
 ⟨h'.os.trans h.os, h'.tape.trans h.tape, h'.output.trans h.output, Nat.le_trans h.size h'.size, fun j hj hl => (h'.keep j hj (Nat.lt_of_lt_of_le hl h.size)).trans (h.keep j hj hl)⟩
theorem Kp.trans' {S S' : Nat → Prop} {a b c : World} (h : Kp S a b) (h' : Kp S' b c) (hs : ∀ j, S' j → S j ∨ a.heap.size ≤ j) : Kp S a c :=
 ⟨h'.os.trans h.os, h'.tape.trans h.tape, h'.output.trans h.output, Nat.le_trans h.size h'.size,
  fun j hj hl => (h'.keep j (fun hj' => (hs j hj').elim hj fun hh => absurd hl (Nat.not_lt.2 hh)) (Nat.lt_of_lt_of_le hl h.size)).trans (h.keep j hj hl)⟩
theorem Kp.mono {S S' : Nat → Prop} {a b : World} (h : Kp S a b) (hs : ∀ j, S j → S' j) : Kp S' a b := ⟨h.os, h.tape, h.output, h.size, fun j hj => h.keep j fun hh => hj (hs j hh)⟩
theorem Eff.kp {w w' : World} {b : Nat} {o : Obj} (h : Eff w w' b o) {S : Nat → Prop} (hb : S b ∨ w.heap.size ≤ b) : Kp S w w' :=
 ⟨h.os, h.tape, h.output, h.size, fun j hj hl => h.other j (fun e => by subst e; exact hb.elim hj fun hh => absurd hl (Nat.not_lt.2 hh)) hl⟩
theorem Blk.kp {S : Nat → Prop} {w w' : World} {b : Nat} {E : TypeId} {fz : Nat × Nat} {cs : List Value} (h : Blk w b E fz cs) (hk : Kp S w w') (hb : ¬ S b) : Blk w' b E fz cs := by
 have hl := h.lt
 unfold Blk at *
 rw [hk.keep b hb hl, h]
theorem Blk.eff {w w' : World} {b b' : Nat} {o : Obj} {E : TypeId} {fz : Nat × Nat} {cs : List Value} (h : Blk w b E fz cs) (hk : Eff w w' b' o) (hb : b ≠ b') : Blk w' b E fz cs := by
 have hl := h.lt
 unfold Blk at *
 rw [hk.other b hb hl, h]
theorem Eff.blk {w w' : World} {b : Nat} {E : TypeId} {fz : Nat × Nat} {cs : List Value} (h : Eff w w' b (.cells cs.toArray E fz)) : Blk w' b E fz cs := h.here
theorem Kp.below {w w' : World} (h : Kp No w w') : RowKit.Below w.heap.size w w' := ⟨h.os, h.tape, h.output, h.size, fun k hk => h.keep k (fun hh => hh) hk⟩
theorem eff_push (w : World) (o : Obj) : Eff w { w with heap := w.heap.push o } w.heap.size o :=
 ⟨rfl, rfl, rfl, by simp, by simp, by simp, fun j hj hl => by simp [Array.getElem?_push, hj]⟩
theorem eff_setCell {b off : Nat} {E : TypeId} {cs : List Value} (h : Blk w b E (0, 0) cs) (v : Value) : Eff w (w.setCell ⟨b, off, none⟩ v) b (.cells (cs.set off v).toArray E (0, 0)) := by
 have hl := h.lt
 unfold Blk at h
 refine ⟨rfl, rfl, rfl, by simp [World.setCell], by simp [World.setCell]; exact hl, ?_, fun j hj _ => ?_⟩
 ·simp [World.setCell, Array.getElem?_modify, h]
 ·simp [World.setCell, Array.getElem?_modify, Ne.symm hj]
variable {f : Fm} {R : Ending → World → Prop} {k : List Item} {pre rest : List Oper}
theorem AtG_alloc {T : TypeId} {z : Value} [TZ P T z]
  (h : ∀ b w', b = w.heap.size → Eff w w' b (.cells z.cells T (0, 0)) → AtR P f n R (⟨dst, .alloc T, ty, pos, aft, g⟩ :: pre) rest k (updo env dst (.pointer (some ⟨b, 0, none⟩))) w') :
  AtG P f n R pre ⟨dst, .alloc T, ty, pos, aft, g⟩ rest k env w :=
 AtG_value (v := .pointer (some ⟨w.heap.size, 0, none⟩)) (w' := { w with heap := w.heap.push (.cells z.cells T (0, 0)) })
  (by unfold Run; simp [execOp, Instr.alloc, run_zeroValue, newVar, newRow]) (h _ _ rfl (eff_push w _))
theorem AtG_box {T : TypeId} {x : Operand} {v : Value} (hx : ev n env x = v)
  (h : ∀ b w', b = w.heap.size → Eff w w' b (.cells v.cells T (0, 0)) → AtR P f n R (⟨dst, .box T x, ty, pos, aft, g⟩ :: pre) rest k (updo env dst (.pointer (some ⟨b, 0, none⟩))) w') :
  AtG P f n R pre ⟨dst, .box T x, ty, pos, aft, g⟩ rest k env w :=
 AtG_value (v := .pointer (some ⟨w.heap.size, 0, none⟩)) (w' := { w with heap := w.heap.push (.cells v.cells T (0, 0)) })
  (by unfold Run; simp [execOp, Instr.box, newVar, newRow, hx]) (h _ _ rfl (eff_push w _))
def one : Value → Bool
 | .agg _ | .tuple _ => false
 | _ => true
theorem run_store_one {b off : Nat} {E : TypeId} {cs : List Value} {v : Value} (hb : Blk w b E (0, 0) cs) (ho : off < cs.length) (hv : one v = true) :
  (store ⟨b, off, none⟩ v).run P w = .ok () (w.setCell ⟨b, off, none⟩ v) := by
 have hc := hb.cell off
 have hf : w.frozen? ⟨b, off, none⟩ = false := by
  unfold Blk at hb
  simp [World.frozen?, hb]
 rw [List.getElem?_eq_getElem ho] at hc
 cases v <;> simp_all [store, Sem.run, one]
theorem AtG_store1 {T : TypeId} {s : Nat} [hs : TSz P T s] {x y : Operand} {b off : Nat} {E : TypeId} {cs : List Value} {v : Value} (hx : ev n env x = .pointer (some ⟨b, off, none⟩))
  (hy : ev n env y = v) (hb : Blk w b E (0, 0) cs) (ho : off < cs.length) (hv : one v = true) (h1 : s = 1)
  (h : ∀ w', Eff w w' b (.cells (cs.set off v).toArray E (0, 0)) → AtR P f n R (⟨dst, .store T x y, ty, pos, aft, g⟩ :: pre) rest k (updo env dst undef) w') :
  AtG P f n R pre ⟨dst, .store T x y, ty, pos, aft, g⟩ rest k env w := by
 subst h1
 have hcells : v.cells = #[v] := by cases v <;> simp_all [one, Value.cells]
 exact AtG_skip (w' := w.setCell ⟨b, off, none⟩ v) (by
  unfold Run
  simp [execOp, Instr.storeAt, hx, hy, Instr.sureAddr, storeVar, run_sizeOf hs.h, hcells, storeCells, add_none, run_store_one hb ho hv]) (h _ (eff_setCell hb v))
theorem i64_in {x : Int} (h1 : -9223372036854775808 ≤ x) (h2 : x ≤ 9223372036854775807) : IntKind.i64.wrap x = x := IntWalk.i64_in x ⟨h1, h2⟩
theorem x_add64 {x y : Operand} {T T' : TypeId} {a b : Int} (hx : ev n env x = .int .i64 a) (hy : ev n env y = .int .i64 b)
  (h1 : -9223372036854775808 ≤ a + b) (h2 : a + b ≤ 9223372036854775807) :
  Run P n env ⟨dst, .binOp .add T x y T', ty, pos, aft, g⟩ w (.ok (.value (.int .i64 (a + b))) w) := by
 have h := x_add (P := P) (w := w) (dst := dst) (ty := ty) (pos := pos) (aft := aft) (g := g) (T := T) (T' := T') hx hy
 rw [i64_in h1 h2] at h; exact h
theorem x_sub64 {x y : Operand} {T T' : TypeId} {a b : Int} (hx : ev n env x = .int .i64 a) (hy : ev n env y = .int .i64 b)
  (h1 : -9223372036854775808 ≤ a - b) (h2 : a - b ≤ 9223372036854775807) :
  Run P n env ⟨dst, .binOp .sub T x y T', ty, pos, aft, g⟩ w (.ok (.value (.int .i64 (a - b))) w) := by
 have h := x_sub (P := P) (w := w) (dst := dst) (ty := ty) (pos := pos) (aft := aft) (g := g) (T := T) (T' := T') hx hy
 rw [i64_in h1 h2] at h; exact h
theorem x_indexAddr1 {T E : TypeId} [hT : TU P T (.slice E)] [hs : TSz P E 1] {x ix : Operand} {b off len cap : Nat} {k : IntKind} {i : Int}
  (hx : ev n env x = .slice (some ⟨b, off, none⟩) len cap) (hi : ev n env ix = .int k i) (h0 : 0 ≤ i) (h1 : i < len) :
  Run P n env ⟨dst, .indexAddr T x ix, ty, pos, aft, g⟩ w (.ok (.value (.pointer (some ⟨b, off + i.toNat, none⟩))) w) := by
 have h := x_indexAddr (P := P) (w := w) (dst := dst) (ty := ty) (pos := pos) (aft := aft) (g := g) (T := T) hx hi h0 h1
 rw [Nat.mul_one] at h; exact h
theorem x_indexAddrN1 {T E : TypeId} [hT : TU P T (.slice E)] [hs : TSz P E 1] {x ix : Operand} {b off len cap : Nat} {k : IntKind} {j : Nat}
  (hx : ev n env x = .slice (some ⟨b, off, none⟩) len cap) (hi : ev n env ix = .int k (j : Int)) (h1 : j < len) :
  Run P n env ⟨dst, .indexAddr T x ix, ty, pos, aft, g⟩ w (.ok (.value (.pointer (some ⟨b, off + j, none⟩))) w) := by
 have h := x_indexAddr1 (P := P) (w := w) (dst := dst) (ty := ty) (pos := pos) (aft := aft) (g := g) (T := T) hx hi (by omega) (by omega)
 rwa [Int.toNat_natCast] at h
def Seg (w : World) (b off : Nat) (vs : List Value) : Prop := ∀ j, j < vs.length → w.cell? ⟨b, off + j, none⟩ = vs[j]?
def ints (k : IntKind) (xs : List Int) : List Value := xs.map (Value.int k)
theorem ints_get (k : IntKind) (xs : List Int) (j : Nat) (h : j < xs.length) : (ints k xs)[j]? = some (.int k (xs.getD j 0)) := by
 simp [ints, List.getD, h]
@[simp] theorem ints_length (k : IntKind) (xs : List Int) : (ints k xs).length = xs.length := by simp [ints]
theorem run_load_cell {b off : Nat} {T : TypeId} [TOne P T] {v : Value} (h : w.cell? ⟨b, off, none⟩ = some v) : (loadVar T ⟨b, off, none⟩).run P w = .ok v w := by
 simp [loadVar, run_isAgg_one, h]
theorem x_load_ints {T : TypeId} [TOne P T] {x : Operand} {b off j : Nat} {k : IntKind} {xs : List Int} (hx : ev n env x = .pointer (some ⟨b, off + j, none⟩))
  (hs : Seg w b off (ints k xs)) (hj : j < xs.length) :
  Run P n env ⟨dst, .load T x, ty, pos, aft, g⟩ w (.ok (.value (.int k (xs.getD j 0))) w) := by
 unfold Run
 simp [execOp, hx, Instr.loadAt, Instr.sureAddr, run_load_cell (P := P) (T := T) ((hs j (by simpa using hj)).trans (ints_get k xs j hj))]
end
end Go.Kx
namespace Go.Kx
open Go
section
variable {P : Program} {n : Nat} {env : Env} {w : World} {dst : Option Tmp} {ty : TypeId} {pos : String} {aft : Array Edge} {g : Option (Nat × Bool)}
theorem Eff.trans {w1 w2 w3 : World} {b : Nat} {o o' : Obj} (h : Eff w1 w2 b o) (h' : Eff w2 w3 b o') : Eff w1 w3 b o' :=
 ⟨h'.os.trans h.os, h'.tape.trans h.tape, h'.output.trans h.output, Nat.le_trans h.size h'.size, h'.lt, h'.here,
  fun j hj hl => (h'.other j hj (Nat.lt_of_lt_of_le hl h.size)).trans (h.other j hj hl)⟩
def lay (cs : List Value) (o : Nat) (vs : List Value) : List Value := cs.take o ++ vs ++ cs.drop (o + vs.length)
theorem lay_length {cs vs : List Value} {o : Nat} (h : o + vs.length ≤ cs.length) : (lay cs o vs).length = cs.length := by
 simp [lay]; omega
theorem lay_cons {cs vs : List Value} {o : Nat} {v : Value} (h : o < cs.length) : lay (cs.set o v) (o + 1) vs = lay cs o (v :: vs) := by
 unfold lay
 apply List.ext_getElem?
 intro j
 simp only [List.getElem?_append, List.getElem?_take, List.getElem?_drop, List.length_take, List.length_set, List.length_append, List.length_cons, List.getElem?_set]
 have e : o + 1 + vs.length = o + (vs.length + 1) := by omega
 by_cases h1 : j < o
 ·have : j < o + 1 := by omega
  simp [h1, this, show min (o + 1) cs.length = o + 1 by omega, show min o cs.length = o by omega, show o ≠ j by omega, show j < o + 1 + vs.length by omega, show j < o + (vs.length + 1) by omega]
 ·by_cases h2 : j = o
  ·subst h2
   simp [show min (j + 1) cs.length = j + 1 by omega, show min j cs.length = j by omega, show j < j + 1 + vs.length by omega, h]
  ·by_cases h3 : j < o + 1 + vs.length
   ·simp [h1, show ¬ j < o + 1 by omega, show min (o + 1) cs.length = o + 1 by omega, show min o cs.length = o by omega, h3, show j < o + (vs.length + 1) by omega, show j - o = (j - (o + 1)) + 1 by omega]
   ·simp [show min (o + 1) cs.length = o + 1 by omega, show min o cs.length = o by omega, show ¬ j < o + (vs.length + 1) by omega, show ¬ (o = o + (vs.length + 1) + (j - (o + (vs.length + 1)))) by omega, e]
theorem lay_nil (cs : List Value) (o : Nat) : lay cs o [] = cs := by simp [lay]
theorem run_storeCells_eff {b off : Nat} {E : TypeId} : ∀ (vs : List Value) (i : Nat) (cs : List Value) (w : World), Blk w b E (0, 0) cs → off + i + vs.length ≤ cs.length → (∀ v ∈ vs, v.oneCell' = true) →
  ∃ w', (storeCells ⟨b, off, none⟩ vs i).run P w = .ok () w' ∧ Eff w w' b (.cells (lay cs (off + i) vs).toArray E (0, 0))
 | [], i, cs, w, hb, _, _ => ⟨w, by simp [storeCells], by
   rw [lay_nil]
   exact ⟨rfl, rfl, rfl, Nat.le_refl _, hb.lt, hb, fun _ _ _ => rfl⟩⟩
 | v :: vs, i, cs, w, hb, hl, h1 => by
  simp only [List.length_cons] at hl
  have hv : one v = true := by
   have := h1 v (List.mem_cons_self ..)
   cases v <;> simp_all [Value.oneCell', one]
  have he := eff_setCell (off := off + i) hb v
  obtain ⟨w', hr, hw⟩ := run_storeCells_eff (b := b) (off := off) vs (i + 1) (cs.set (off + i) v) _ he.blk (by simp; omega) (fun u hu => h1 u (List.mem_cons_of_mem _ hu))
  refine ⟨w', ?_, ?_⟩
  ·simp [storeCells, add_none, run_store_one hb (show off + i < cs.length by omega) hv, hr]
  ·have := he.trans hw
   rwa [← Nat.add_assoc, lay_cons (by omega)] at this
theorem AtG_storeN {f : Fm} {R : Ending → World → Prop} {k : List Item} {pre rest : List Oper} {T : TypeId} {s : Nat} [hs : TSz P T s] {x y : Operand} {b off : Nat} {E : TypeId} {cs vs : List Value} (hx : ev n env x = .pointer (some ⟨b, off, none⟩))
  (hy : ev n env y = .agg vs.toArray) (hb : Blk w b E (0, 0) cs) (hl : vs.length = s) (ho : off + s ≤ cs.length) (h1 : vs.all (·.oneCell') = true)
  (h : ∀ w', Eff w w' b (.cells (lay cs off vs).toArray E (0, 0)) → AtR P f n R (⟨dst, .store T x y, ty, pos, aft, g⟩ :: pre) rest k (updo env dst undef) w') :
  AtG P f n R pre ⟨dst, .store T x y, ty, pos, aft, g⟩ rest k env w := by
 obtain ⟨w', hr, hw⟩ := run_storeCells_eff (P := P) (b := b) (off := off) (E := E) vs 0 cs w hb (by omega) (fun v hv => (List.all_eq_true.1 h1) v hv)
 refine AtG_skip (w' := w') ?_ (h _ hw)
 unfold Run
 simp [execOp, Instr.storeAt, hx, hy, Instr.sureAddr, storeVar, run_sizeOf hs.h, Value.cells, hl, hr]
theorem x_slice_h {T E : TypeId} {s : Nat} [hT : TU P T (.slice E)] [hs : TSz P E s] {x hi : Operand} {b off len cap : Nat} {kh : IntKind} {h : Int}
  (hx : ev n env x = .slice (some ⟨b, off, none⟩) len cap) (hh : ev n env hi = .int kh h) (h0 : 0 ≤ h) (h2 : h ≤ cap) :
  Run P n env ⟨dst, .slice T x none (some hi) none, ty, pos, aft, g⟩ w (.ok (.value (.slice (some ⟨b, off, none⟩) h.toNat cap)) w) := by
 have hb : (Instr.sliceBound (.int kh h) cap .sliceAcap).run P w = .ok h.toNat w := run_sliceBound w kh h cap _ h0 h2
 unfold Run
 simp [execOp, hx, hh, Instr.sliceAt, Instr.slice, run_underlying hT.h, Instr.sliceBounds, hb, run_sizeOf hs.h]
 intro _; rw [add_none]; simp
theorem x_slice_l {T E : TypeId} {s : Nat} [hT : TU P T (.slice E)] [hs : TSz P E s] {x lo : Operand} {b off len cap : Nat} {kl : IntKind} {l : Int}
  (hx : ev n env x = .slice (some ⟨b, off, none⟩) len cap) (hh : ev n env lo = .int kl l) (h0 : 0 ≤ l) (h2 : l ≤ len) (hlt : l < cap) :
  Run P n env ⟨dst, .slice T x (some lo) none none, ty, pos, aft, g⟩ w (.ok (.value (.slice (some ⟨b, off + l.toNat * s, none⟩) (len - l.toNat) (cap - l.toNat))) w) := by
 have hb : (Instr.sliceBound (.int kl l) len .sliceB).run P w = .ok l.toNat w := run_sliceBound w kl l len _ h0 h2
 have hne : cap ≠ l.toNat := by omega
 unfold Run
 simp [execOp, hx, hh, Instr.sliceAt, Instr.slice, run_underlying hT.h, Instr.sliceBounds, hb, run_sizeOf hs.h, hne, add_none]
theorem x_slice_lh {T E : TypeId} {s : Nat} [hT : TU P T (.slice E)] [hs : TSz P E s] {x lo hi : Operand} {b off len cap : Nat} {kl kh : IntKind} {l h : Int}
  (hx : ev n env x = .slice (some ⟨b, off, none⟩) len cap) (hll : ev n env lo = .int kl l) (hh : ev n env hi = .int kh h) (h0 : 0 ≤ l) (h1 : l ≤ h) (h2 : h ≤ cap) (hlt : l < cap) :
  Run P n env ⟨dst, .slice T x (some lo) (some hi) none, ty, pos, aft, g⟩ w (.ok (.value (.slice (some ⟨b, off + l.toNat * s, none⟩) (h.toNat - l.toNat) (cap - l.toNat))) w) := by
 have hb : (Instr.sliceBound (.int kh h) cap .sliceAcap).run P w = .ok h.toNat w := run_sliceBound w kh h cap _ (by omega) h2
 have hb2 : (Instr.sliceBound (.int kl l) h.toNat .sliceB).run P w = .ok l.toNat w := run_sliceBound w kl l h.toNat _ h0 (by omega)
 have hne : cap ≠ l.toNat := by omega
 unfold Run
 simp [execOp, hx, hll, hh, Instr.sliceAt, Instr.slice, run_underlying hT.h, Instr.sliceBounds, hb, hb2, run_sizeOf hs.h, hne, add_none]
theorem x_slice_h' {T E : TypeId} {s : Nat} [hT : TU P T (.slice E)] [hs : TSz P E s] {x hi : Operand} {a : Option Addr} {len cap : Nat} {kh : IntKind} {h : Int}
  (hx : ev n env x = .slice a len cap) (ha : ∀ ad, a = some ad → ad.spot = none) (hh : ev n env hi = .int kh h) (h0 : 0 ≤ h) (h2 : h ≤ cap) :
  Run P n env ⟨dst, .slice T x none (some hi) none, ty, pos, aft, g⟩ w (.ok (.value (.slice a h.toNat cap)) w) := by
 have hb : (Instr.sliceBound (.int kh h) cap .sliceAcap).run P w = .ok h.toNat w := run_sliceBound w kh h cap _ h0 h2
 unfold Run
 cases a with
 | none => simp [execOp, hx, hh, Instr.sliceAt, Instr.slice, run_underlying hT.h, Instr.sliceBounds, hb, run_sizeOf hs.h]
 | some ad =>
  have hsp := ha ad rfl
  have : ad.add 0 = ad := by simp [Addr.add]
  simp [execOp, hx, hh, Instr.sliceAt, Instr.slice, run_underlying hT.h, Instr.sliceBounds, hb, run_sizeOf hs.h, this]
theorem madeCells_rep (z : Value) (m : Nat) : (madeCells #[z] m) = (List.replicate m z).toArray := by
 apply Array.ext
 ·simp [madeCells]
 ·intro i h1 h2
  simp [madeCells, Nat.mod_one]
theorem size_zero {T : TypeId} {z : Value} [hz : TZ P T z] : ∃ i, P.info? T = some i ∧ i.zero = some z := by
 have h := hz.h
 cases hq : P.info? T with
 | none => simp [hq] at h
 | some i => simp [hq] at h; exact ⟨i, rfl, h⟩
theorem info_of {T : TypeId} {z : Value} {s y : Nat} [hz : TZ P T z] [hs : TSz P T s] [hy : TBy P T y] : ∃ i, P.info? T = some i ∧ i.zero = some z ∧ i.size = s ∧ i.bytes = y := by
 obtain ⟨i, hi, h⟩ := size_zero (P := P) (T := T) (z := z)
 have h1 := hs.h; have h2 := hy.h
 simp [hi] at h1 h2
 exact ⟨i, hi, h, h1, h2⟩
theorem AtG_make1 {f : Fm} {R : Ending → World → Prop} {k : List Item} {pre rest : List Oper} {T E : TypeId} {z : Value} {y : Nat} [hT : TU P T (.slice E)] [TZ P E z] [TSz P E 1] [TBy P E y]
  {x c : Operand} {kl kc : IntKind} {l cp : Int} (hx : ev n env x = .int kl l) (hc : ev n env c = .int kc cp) (h0 : 0 ≤ l) (h1 : l ≤ cp) (hz : one z = true) (hb : (y : Int) * cp ≤ 281474976710656) (h63 : cp ≤ 9223372036854775807)
  (h : ∀ b w', b = w.heap.size → Eff w w' b (.cells (List.replicate cp.toNat z).toArray E (0, 0)) →
   AtR P f n R (⟨dst, .makeSlice T x c, ty, pos, aft, g⟩ :: pre) rest k (updo env dst (.slice (some ⟨b, 0, none⟩) l.toNat cp.toNat)) w') :
  AtG P f n R pre ⟨dst, .makeSlice T x c, ty, pos, aft, g⟩ rest k env w := by
 obtain ⟨i, hi, hiz, hs, hy⟩ := info_of (P := P) (T := E) (z := z) (s := 1) (y := y)
 have hr := run_make (P := P) w T E i z hT.h hi hiz kl kc l cp h0 h1 (by rw [hy]; exact hb) h63
 have hcells : z.cells = #[z] := by cases z <;> simp_all [one, Value.cells]
 rw [hs, hcells, Nat.mul_one, madeCells_rep] at hr
 refine AtG_value (v := .slice (some ⟨w.heap.size, 0, none⟩) l.toNat cp.toNat) (w' := w.alloc (.cells (List.replicate cp.toNat z).toArray E)) ?_ (h _ _ rfl (eff_push w _))
 unfold Run
 simp [execOp, hx, hc, hr]
def slots1 : List (Nat × Operand) → Nat → Bool
 | [], _ => true
 | (i, _) :: r, j => i == j && slots1 r (j + 1)
theorem fill_one : ∀ (vs : List Value) (parts : List (Nat × Value)) (done todo : List Value), (∀ v ∈ vs, one v = true) → parts = (vs.zipIdx done.length).map (fun p => (p.2, p.1)) → todo.length = vs.length →
  Instr.fill (fun i => some (i * 1, 1)) (done ++ todo).toArray parts = some (done ++ vs).toArray
 | [], parts, done, todo, _, hp, ht => by
  subst hp
  have : todo = [] := List.eq_nil_of_length_eq_zero (by simpa using ht)
  subst this
  simp [Instr.fill]
 | v :: vs, parts, done, todo, h1, hp, ht => by
  subst hp
  cases todo with
  | nil => simp at ht
  | cons t todo =>
   have hv := h1 v (List.mem_cons_self ..)
   have hcells : v.cells = #[v] := by cases v <;> simp_all [one, Value.cells]
   have ih := fill_one vs _ (done ++ [v]) todo (fun u hu => h1 u (List.mem_cons_of_mem _ hu)) rfl (by simpa using ht)
   have e : (done ++ t :: todo).toArray.setIfInBounds done.length v = (done ++ [v] ++ todo).toArray := by
    rw [List.setIfInBounds_toArray]
    congr 1
    simp
   have hz : (#[v] : Array Value).zipIdx = #[(v, 0)] := rfl
   simp only [List.length_append, List.length_cons, List.length_nil, Nat.zero_add] at ih
   simp only [List.zipIdx_cons, List.map_cons, Instr.fill, hcells, hz]
   rw [if_neg (by simp)]
   rw [show done ++ v :: vs = done ++ [v] ++ vs by simp, ← ih, ← e]
   simp [Nat.mul_one]
theorem run_buildSlice1 {T E : TypeId} {z : Value} {len : Nat} [hT : TU P T (.slice E)] [hZ : TZ P E z] [hS : TSz P E 1]
  {ops : List Operand} {parts : List (Nat × Operand)} {vs : List Value} (hp : parts = ops.zipIdx.map (fun p => (p.2, p.1))) (hl : ops.length = len) (hlen : len ≤ 16777216) (hz : one z = true)
  (hv : ops.map (ev n env) = vs) (h1 : vs.all one = true) :
  Run P n env ⟨dst, .buildSlice T len parts.toArray, ty, pos, aft, g⟩ w (.ok (.value (.slice (some ⟨w.heap.size, 0, none⟩) len len)) { w with heap := w.heap.push (.cells vs.toArray E (0, 0)) }) := by
 have hcells : z.cells = #[z] := by cases z <;> simp_all [one, Value.cells]
 have hlv : vs.length = len := by rw [← hv]; simpa using hl
 have hf := fill_one vs ((parts.map (fun p => (p.1, ev n env p.2)))) [] (List.replicate len z) (fun v hv => (List.all_eq_true.1 h1) v hv) (by
  subst hp; subst hv
  simp [List.zipIdx_map, List.map_map, Function.comp_def]) (by simp [hlv])
 simp only [List.nil_append] at hf
 have hrep2 : Array.map (fun x => ([z] : List Value)[x % 1]?.getD default) (Array.range len) = (List.replicate len z).toArray := by
  apply Array.ext
  ·simp
  ·intro i _ _; simp [Nat.mod_one]
 have hf2 : Instr.fill (fun i => some (i, 1)) (Array.replicate len z) (parts.map (fun p => (p.1, ev n env p.2))) = some vs.toArray := by
  simpa only [Nat.mul_one, List.toArray_replicate] using hf
 unfold Run
 by_cases h0 : len = 0
 ·subst h0
  have hvs : vs = [] := List.eq_nil_of_length_eq_zero hlv
  subst hvs
  have hops : ops = [] := List.eq_nil_of_length_eq_zero hl
  subst hops; subst hp
  simp [execOp, Instr.buildSlice, run_underlying hT.h, run_sizeOf hS.h, newRow, Instr.fill, Array.range_zero']
 ·simp [execOp, Instr.buildSlice, run_underlying hT.h, run_sizeOf hS.h, run_zeroValue, hcells, newRow, h0, hrep2, hf2, show ¬ (16777216 < len) by omega]
theorem AtG_buildSlice1 {f : Fm} {R : Ending → World → Prop} {k : List Item} {pre rest : List Oper} {T E : TypeId} {z : Value} {len : Nat} [hT : TU P T (.slice E)] [hZ : TZ P E z] [hS : TSz P E 1]
  {ops : List Operand} {parts : List (Nat × Operand)} {vs : List Value} (hp : parts = ops.zipIdx.map (fun p => (p.2, p.1))) (hl : ops.length = len) (hlen : len ≤ 16777216) (hz : one z = true)
  (hv : ops.map (ev n env) = vs) (h1 : vs.all one = true)
  (h : ∀ b w', b = w.heap.size → Eff w w' b (.cells vs.toArray E (0, 0)) →
   AtR P f n R (⟨dst, .buildSlice T len parts.toArray, ty, pos, aft, g⟩ :: pre) rest k (updo env dst (.slice (some ⟨b, 0, none⟩) len len)) w') :
  AtG P f n R pre ⟨dst, .buildSlice T len parts.toArray, ty, pos, aft, g⟩ rest k env w :=
 AtG_value (run_buildSlice1 hp hl hlen hz hv h1) (h _ _ rfl (eff_push w _))
def Own (w : World) (E : TypeId) (s : Nat) (a : Option Addr) (m cap : Nat) (cs : List Value) : Prop :=
 cs.length = m * s ∧ m ≤ cap ∧ cap ≤ maxLen ∧ ((a = none ∧ cap = 0) ∨ ∃ b sp, a = some ⟨b, 0, none⟩ ∧ Blk w b E (0, 0) (cs ++ sp) ∧ (cs ++ sp).length = cap * s)
theorem Own.nil (w : World) (E : TypeId) (s : Nat) : Own w E s none 0 0 [] := ⟨by simp, Nat.le_refl _, Nat.zero_le _, .inl ⟨rfl, rfl⟩⟩
def blkOf (a : Option Addr) : Nat → Prop := fun j => a.map (·.block) = some j
theorem Own.kp {S : Nat → Prop} {w w' : World} {E : TypeId} {s : Nat} {a : Option Addr} {m cap : Nat} {cs : List Value} (h : Own w E s a m cap cs) (hk : Kp S w w') (hb : ∀ j, blkOf a j → ¬ S j) : Own w' E s a m cap cs := by
 obtain ⟨h1, h2, h3, h4⟩ := h
 refine ⟨h1, h2, h3, h4.imp id ?_⟩
 rintro ⟨b, sp, rfl, hB, hl⟩
 exact ⟨b, sp, rfl, hB.kp hk (hb b rfl), hl⟩
theorem Own.lt {w : World} {E : TypeId} {s : Nat} {a : Option Addr} {m cap : Nat} {cs : List Value} (h : Own w E s a m cap cs) : ∀ j, blkOf a j → j < w.heap.size := by
 obtain ⟨h1, h2, h3, h4⟩ := h
 rcases h4 with ⟨rfl, _⟩ | ⟨b, sp, rfl, hB, hl⟩
 ·intro j hj; simp [blkOf] at hj
 ·intro j hj; simp [blkOf] at hj; subst hj; exact hB.lt
theorem run_append_own' {T tx E : TypeId} {z : Value} {s y : Nat} [hT : TU P T (.slice E)] [TZ P E z] [TSz P E s] [TBy P E y] (hz : z.cells.size = s) (hs : 0 < s)
  {a : Option Addr} {m cap : Nat} {cs : List Value} (ho : Own w E s a m cap cs) {x : Value} {j : Nat} {news : List Value} (hx : Src P s tx x j news w)
  (h63 : m + j ≤ maxLen) (hby : (m + j) * y ≤ 140737488355328) :
  ∃ a' cap' w', (Builtin.append_ #[T, tx] ty #[.slice a m cap, x]).run P w = .ok (.slice a' (m + j) cap') w' ∧ Own w' E s a' (m + j) cap' (cs ++ news) ∧ Kp (blkOf a) w w' ∧
   (a' = a ∨ ∃ b, a' = some ⟨b, 0, none⟩ ∧ w.heap.size ≤ b) := by
 obtain ⟨i, hi, hiz, hsz, hby'⟩ := info_of (P := P) (T := E) (z := z) (s := s) (y := y)
 subst hsz; subst hby'
 obtain ⟨h1, h2, h3, h4⟩ := ho
 have hlen : (cs ++ news).length = (m + j) * i.size := by rw [List.length_append, h1, hx.newsLen, Nat.add_mul]
 have h63' : ((m + j : Nat) : Int) ≤ 9223372036854775807 := by simp only [maxLen] at h63; omega
 by_cases hroom : m + j ≤ cap
 ·rcases h4 with ⟨rfl, rfl⟩ | ⟨b, sp, rfl, hB, hl⟩
  ·have hm : m = 0 := by omega
   have hj : j = 0 := by omega
   subst hm; subst hj
   have hc : cs = [] := List.eq_nil_of_length_eq_zero (by simpa using h1)
   have hn : news = [] := List.eq_nil_of_length_eq_zero (by simpa using hx.newsLen)
   subst hc; subst hn
   refine ⟨none, 0, w, ?_, Own.nil w E i.size, Kp.refl _ w, .inl rfl⟩
   rcases hx.kind with ⟨e', hk⟩ | hk <;> simp [Builtin.append_, run_underlying hT.h, run_underlying hk, sizeOf, typeInfo, hi, hx.len, hx.cells]
  ·have hfit : m * i.size + news.length ≤ (cs ++ sp).length := by rw [hl, hx.newsLen, ← Nat.add_mul]; exact Nat.mul_le_mul_right _ hroom
   obtain ⟨w', hr, hw⟩ := run_storeCells_eff (P := P) (b := b) (off := m * i.size) (E := E) news 0 (cs ++ sp) w hB (by simpa using hfit) hx.one
   have hlay : lay (cs ++ sp) (m * i.size + 0) news = (cs ++ news) ++ sp.drop news.length := by
    simp only [lay, Nat.add_zero, ← h1]
    rw [List.take_left, List.drop_append]
    simp [List.drop_eq_nil_of_le]
   rw [hlay] at hw
   refine ⟨some ⟨b, 0, none⟩, cap, w', ?_, ⟨hlen, hroom, h3, .inr ⟨b, sp.drop news.length, rfl, hw.blk, ?_⟩⟩, hw.kp (.inl rfl), .inl rfl⟩
   ·rcases hx.kind with ⟨e', hk⟩ | hk <;> simp [Builtin.append_, run_underlying hT.h, run_underlying hk, sizeOf, typeInfo, hi, hx.len, hroom, hx.cells, add_none, hr]
   ·simp only [List.length_append, List.length_drop] at hl hfit ⊢; omega
 ·have hgrow : ∀ base : Option Addr, (Builtin.firstCells i.size m (.slice base m cap)).run P w.drew = .ok cs.toArray w.drew →
    ∃ cap' w', (Builtin.append_ #[T, tx] ty #[.slice base m cap, x]).run P w = .ok (.slice (some ⟨w.heap.size, 0, none⟩) (m + j) cap') w' ∧ Own w' E i.size (some ⟨w.heap.size, 0, none⟩) (m + j) cap' (cs ++ news) ∧
     ∀ S, Kp S w w' := by
   intro base hold
   have hr := run_append_grow_src (P := P) w T tx ty E i z hT.h hi hiz base m cap cs hold x j news hx (by omega) h63' (growslice_fits (by omega) hby)
   have hge := grownCap_ge w (m + j) cap E
   refine ⟨_, _, hr, ⟨hlen, hge, grownCap_le_maxLen w (m + j) cap E h63, .inr ⟨_, (Builtin.zeroCells z.cells (grownCap w (m + j) cap E - (m + j))).toList, rfl, ?_, ?_⟩⟩, fun S => ?_⟩
   ·have h := (eff_push w.drew (.cells ((cs ++ news).toArray ++ Builtin.zeroCells z.cells (grownCap w (m + j) cap E - (m + j))) E)).here
    unfold Blk
    rw [show ((cs ++ news) ++ (Builtin.zeroCells z.cells (grownCap w (m + j) cap E - (m + j))).toList).toArray = (cs ++ news).toArray ++ Builtin.zeroCells z.cells (grownCap w (m + j) cap E - (m + j)) by
     apply Array.ext'; simp]
    exact h
   ·rw [List.length_append, hlen, Array.length_toList, size_zeroCells, hz, ← Nat.add_mul]; congr 1; omega
   ·have e := eff_push w.drew (.cells ((cs ++ news).toArray ++ Builtin.zeroCells z.cells (grownCap w (m + j) cap E - (m + j))) E)
    exact ⟨e.os, e.tape, e.output, e.size, fun j _ hl => e.other j (Nat.ne_of_lt hl) hl⟩
  rcases h4 with ⟨rfl, rfl⟩ | ⟨b, sp, rfl, hB, hl⟩
  ·have hm : m = 0 := by omega
   subst hm
   have hc : cs = [] := List.eq_nil_of_length_eq_zero (by simpa using h1)
   subst hc
   obtain ⟨cap', w', hr, ho, hk⟩ := hgrow none (by simp [Builtin.firstCells])
   exact ⟨_, cap', w', hr, ho, hk _, .inr ⟨_, rfl, Nat.le_refl _⟩⟩
  ·have hcells : ∀ j u, cs[j]? = some u → w.drew.cell? ((⟨b, 0, none⟩ : Addr).add j) = some u := fun j u hj => by
    have hlt : j < cs.length := (List.getElem?_eq_some_iff.1 hj).1
    rw [add_none, Nat.zero_add]
    show w.cell? ⟨b, j, none⟩ = some u
    rw [hB.cell, List.getElem?_append_left hlt, hj]
   obtain ⟨cap', w', hr, ho, hk⟩ := hgrow (some ⟨b, 0, none⟩) (run_firstCells_some w.drew i.size m ⟨b, 0, none⟩ m cap cs h1 hcells)
   exact ⟨_, cap', w', hr, ho, hk _, .inr ⟨_, rfl, Nat.le_refl _⟩⟩
theorem AtG_append {f : Fm} {R : Ending → World → Prop} {k : List Item} {pre rest : List Oper} {T tx E : TypeId} {z : Value} {s y : Nat} [hT : TU P T (.slice E)] [TZ P E z] [TSz P E s] [TBy P E y]
  {xd xs : Operand} {a : Option Addr} {m cap : Nat} {cs : List Value} {x : Value} {j : Nat} {news : List Value} (hd : ev n env xd = .slice a m cap) (hv : ev n env xs = x)
  (ho : Own w E s a m cap cs) (hx : Src P s tx x j news w) (hz : z.cells.size = s) (hs : 0 < s)
  (h63 : m + j ≤ maxLen) (hby : (m + j) * y ≤ 140737488355328)
  (h : ∀ a' cap' w', Own w' E s a' (m + j) cap' (cs ++ news) → Kp (blkOf a) w w' → (a' = a ∨ ∃ b, a' = some ⟨b, 0, none⟩ ∧ w.heap.size ≤ b) →
   AtR P f n R (⟨dst, .call ⟨.builtin .append, #[xd, xs], #[T, tx]⟩, ty, pos, aft, g⟩ :: pre) rest k (updo env dst (.slice a' (m + j) cap')) w') :
  AtG P f n R pre ⟨dst, .call ⟨.builtin .append, #[xd, xs], #[T, tx]⟩, ty, pos, aft, g⟩ rest k env w := by
 obtain ⟨a', cap', w', hr, h1, h2, h3⟩ := run_append_own' (P := P) (ty := ty) (T := T) (tx := tx) hz hs ho hx h63 hby
 refine AtG_value (w' := w') ?_ (h a' cap' w' h1 h2 h3)
 unfold Run
 simp [execOp, resolve, invoke, builtin, hd, hv, hr]
end
end Go.Kx
namespace Go.Kx
open Go
theorem Kp.drew {S : Nat → Prop} {w : World} : Kp S w w.drew := ⟨rfl, rfl, rfl, Nat.le_refl _, fun _ _ _ => rfl⟩
theorem Kp.of_drew {S : Nat → Prop} {w w' : World} (h : Kp S w.drew w') : Kp S w w' := ⟨h.os, h.tape, h.output, h.size, h.keep⟩
section
attribute [local semireducible] At AtR AtG Run
variable {P : Program} {f : Fm} {n : Nat} {R : Ending → World → Prop} {k : List Item} {env : Env} {w : World} {S : World → Prop} {ops : Array Oper}
def AtQ (P : Program) (f : Fm) (n : Nat) (R : Ending → World → Prop) (k : List Item) : Exit → Act → World → Prop := fun e a w => e = .normal ∧ ∃ env, a = mkF f n env ∧ At P f n R k env w
theorem At_wp {c : Code} (h : c.wp P (AtQ P f n R k) (mkF f n env) w) (h0 : f.round = none := by rfl) : At P f n R (.code c :: k) env w := by
 intro cs
 obtain ⟨e, a', w', ⟨rfl, env', rfl, h'⟩, harr⟩ := h (fr0 f) k cs
 obtain ⟨e, w'', fr, hR, hc, rest⟩ := h' cs
 have hr : (fr0 f).roundOf = none := h0
 rw [Frame.atR_of_none hr] at hc ⊢
 exact ⟨e, w'', fr, hR, .of_steps harr hc, rest⟩
def AtH (P : Program) (f : Fm) (n : Nat) (R : Ending → World → Prop) (ops : Array Oper) (S : World → Prop) (k : List Item) (fuel : Nat) (listed : Array Bool) (env : Env) (w : World) : Prop :=
 wpAnyH P .any ops (AtQ P f n R k) S fuel listed (mkF f n env) w
theorem At_draw {id : Nat} (S : World → Prop) (hm : P.follows .mixedOrders = true) (h : AtH P f n R ops S k ops.size (Array.replicate ops.size false) env w.drew) (h0 : f.round = none := by rfl) :
  At P f n R (.code (.region id ops true) :: k) env w :=
 At_wp (wp_region_held (S := S) hm h) h0
theorem AtH_done {fuel : Nat} {listed : Array Bool} (hr : (Region.ready .any ops listed).isEmpty = true) (h : At P f n R k env w) : AtH P f n R ops S k fuel listed env w :=
 wpAnyH_done (by simpa using hr) ⟨rfl, env, rfl, h⟩ fuel
def canTake (ops : Array Oper) (listed : Array Bool) (i : Nat) : Bool :=
 Region.noSelect ops && Region.free .any ops listed i && (Region.ready .any ops listed).contains i
theorem wanted_none {o : Oper} {y : Nat → Option Bool} (h : o.guard = none) : Region.wanted o y = true := by simp [Region.wanted, h]
def gsays (ops : Array Oper) (n : Nat) (env : Env) (o : Oper) (yes : Bool) : Prop :=
 match o.guard with
 | none => yes = true
 | some (j, b) => ∃ d b', ((ops[j]?).bind (·.dst)) = some d ∧ d < n ∧ env d = .bool b' ∧ yes = (b == b')
theorem wanted_gsays {o : Oper} {yes : Bool} (h : gsays ops n env o yes) : Region.wanted o (yielded ops (mkF f n env).tmps) = yes := by
 show Region.wanted o (yielded ops (mkA n env).tmps) = yes
 unfold gsays at h
 unfold Region.wanted
 split at h
 ·rename_i hg; simp [hg, h]
 ·rename_i j b hg
  obtain ⟨d, b', hj, hd, hb, rfl⟩ := h
  have : yielded ops (mkA n env).tmps j = some b' := by
   simp only [yielded, hj, Option.bind_some, mkA_get? n env d hd, hb]
  rw [hg]
  simp only [this]
  cases b <;> cases b' <;> rfl
theorem AtH_take {fuel : Nat} {listed : Array Bool} (i : Nat) {o : Oper} {v : Value} (hi : ops[i]? = some o) (hc : canTake ops listed i = true) (hg : gsays ops n env o true)
  (hr : ∀ w, S w → Run P n env o w (.ok (.value v) w)) (hS : S w) (h : AtH P f n R ops S k fuel (listed.setIfInBounds i true) (updo env o.dst v) w) :
  AtH P f n R ops S k (fuel + 1) listed env w := by
 simp only [canTake, Bool.and_eq_true] at hc
 refine wpAnyH_take hi hc.1.1 hc.1.2 hc.2 (fun _ _ _ hq => absurd hq.1 (by simp)) (v := v) (.inl ⟨wanted_gsays hg, fun w hw => ?_⟩) hS ?_
 ·rw [eval_mkF]; exact hr w hw
 ·rw [mkF_put]; exact h
theorem AtH_bool {fuel : Nat} {listed : Array Bool} (i : Nat) {o : Oper} {p bv : Bool} (hi : ops[i]? = some o) (hc : canTake ops listed i = true) (hg : gsays ops n env o true)
  (hr : ∀ w, S w → Run P n env o w (.ok (.value (.bool p)) w)) (hp : p = bv) (hS : S w) (h : AtH P f n R ops S k fuel (listed.setIfInBounds i true) (updo env o.dst (.bool bv)) w) :
  AtH P f n R ops S k (fuel + 1) listed env w := by
 subst hp; exact AtH_take i hi hc hg hr hS h
theorem AtH_no {fuel : Nat} {listed : Array Bool} (i : Nat) {o : Oper} (hi : ops[i]? = some o) (hc : canTake ops listed i = true) (hg : gsays ops n env o false)
  (hS : S w) (h : AtH P f n R ops S k fuel (listed.setIfInBounds i true) (updo env o.dst undef) w) :
  AtH P f n R ops S k (fuel + 1) listed env w := by
 simp only [canTake, Bool.and_eq_true] at hc
 refine wpAnyH_take hi hc.1.1 hc.1.2 hc.2 (fun _ _ _ hq => absurd hq.1 (by simp)) (v := undef) (.inr ⟨wanted_gsays hg, rfl⟩) hS ?_
 rw [mkF_put]; exact h
theorem AtH_op {fuel : Nat} {listed : Array Bool} (i : Nat) (hr : Region.ready .any ops listed = [i])
  (h : wpOp P ops (AtQ P f n R k) i (fun a' w' => S w' ∧ wpAnyH P .any ops (AtQ P f n R k) S fuel (listed.setIfInBounds i true) a' w') (mkF f n env) w) : AtH P f n R ops S k (fuel + 1) listed env w :=
 wpAnyH_all hr (by simp) (fun j hj => by
  have : j = i := by simpa using hj
  subst this; exact h)
theorem AtH_val {fuel : Nat} {listed : Array Bool} (i : Nat) {o : Oper} {v : Value} {w' : World} (hi : ops[i]? = some o) (hr : Region.ready .any ops listed = [i]) (hg : gsays ops n env o true)
  (hrun : Run P n env o w (.ok (.value v) w')) (hS : S w') (h : AtH P f n R ops S k fuel (listed.setIfInBounds i true) (updo env o.dst v) w') : AtH P f n R ops S k (fuel + 1) listed env w := by
 refine AtH_op i hr ?_
 unfold wpOp
 simp only [hi]
 rw [if_pos (wanted_gsays hg)]
 refine .inl ?_
 unfold Run at hrun
 unfold Oper.wp
 rw [eval_mkF, hrun]
 simp only [Oper.upon, mkF_put]
 exact ⟨hS, h⟩
theorem AtH_skip {fuel : Nat} {listed : Array Bool} (i : Nat) {o : Oper} {w' : World} (hi : ops[i]? = some o) (hr : Region.ready .any ops listed = [i]) (hg : gsays ops n env o true)
  (hrun : Run P n env o w (.ok .skip w')) (hS : S w') (h : AtH P f n R ops S k fuel (listed.setIfInBounds i true) (updo env o.dst undef) w') : AtH P f n R ops S k (fuel + 1) listed env w := by
 refine AtH_op i hr ?_
 unfold wpOp
 simp only [hi]
 rw [if_pos (wanted_gsays hg)]
 refine .inl ?_
 unfold Run at hrun
 unfold Oper.wp
 rw [eval_mkF, hrun]
 simp only [Oper.upon, mkF_put]
 exact ⟨hS, h⟩
theorem AtH_call {fuel : Nat} {listed : Array Bool} (i : Nat) {o : Oper} {gf : FuncId} {args : Array Value} {w' : World} {Q : Ending → World → Prop} (hi : ops[i]? = some o) (hr : Region.ready .any ops listed = [i]) (hg : gsays ops n env o true)
  (hrun : Run P n env o w (.ok (.enter gf args) w')) (hc : Calls P gf args w' Q)
  (h : ∀ e w'', Q e w'' → ∃ v, e = .returned v ∧ S w'' ∧ AtH P f n R ops S k fuel (listed.setIfInBounds i true) (updo env o.dst v) w'') : AtH P f n R ops S k (fuel + 1) listed env w := by
 refine AtH_op i hr ?_
 unfold wpOp
 simp only [hi]
 rw [if_pos (wanted_gsays hg)]
 refine .inl ?_
 unfold Run at hrun
 unfold Oper.wp
 rw [eval_mkF, hrun]
 simp only [Oper.upon]
 refine hc.mono fun e w'' hq => ?_
 obtain ⟨v, rfl, hS, h'⟩ := h e w'' hq
 simp only [mkF_put]
 exact ⟨hS, h'⟩
end
attribute [irreducible] AtH
end Go.Kx
namespace Go.Kx
open Go
def mkI (ks : List IntKind) (xs : List Int) : List Value := List.zipWith Value.int ks xs
theorem mkI_length {ks : List IntKind} {xs : List Int} (h : ks.length = xs.length) : (mkI ks xs).length = ks.length := by simp [mkI, h]
theorem mkI_drop (ks : List IntKind) (xs : List Int) (o : Nat) : (mkI ks xs).drop o = mkI (ks.drop o) (xs.drop o) := by simp [mkI, List.drop_zipWith]
theorem mkI_take (ks : List IntKind) (xs : List Int) (o : Nat) : (mkI ks xs).take o = mkI (ks.take o) (xs.take o) := by simp [mkI, List.take_zipWith]
theorem mkI_append {ks ks' : List IntKind} {xs xs' : List Int} (h : ks.length = xs.length) : mkI (ks ++ ks') (xs ++ xs') = mkI ks xs ++ mkI ks' xs' := by
 simp [mkI, List.zipWith_append h]
theorem mkI_replicate (k : IntKind) (m : Nat) (xs : List Int) (h : xs.length = m) : mkI (List.replicate m k) xs = ints k xs := by
 subst h
 induction xs with
 | nil => rfl
 | cons x xs ih => simp only [List.length_cons, List.replicate_succ, mkI, List.zipWith_cons_cons, ints, List.map_cons]; rw [← ints, ← mkI, ih]
def flatFs (gk : TypeId → Option (List IntKind)) (sz : TypeId → Option Nat) : List Field → Nat → Option (List IntKind)
 | [], _ => some []
 | f :: fs, off =>
  match gk f.type, sz f.type, flatFs gk sz fs (off + ((gk f.type).getD []).length) with
  | some ks, some s, some r => if f.name ≠ "_" ∧ f.offset = off ∧ s = ks.length then some (ks ++ r) else none
  | _, _, _ => none
def flatK (P : Program) : Nat → TypeId → Option (List IntKind)
 | 0, _ => none
 | d + 1, T =>
  match P.underlying T with
  | some (.int k) => some [k]
  | some (.array m E) =>
   match flatK P d E, (P.info? E).map (·.size) with
   | some ks, some s => if s = ks.length then some (List.replicate m ks).flatten else none
   | _, _ => none
  | some (.struct fs) => if P.stoodInHeld T then none else flatFs (flatK P d) (fun t => (P.info? t).map (·.size)) fs.toList 0
  | _ => none
def isAggB (P : Program) (T : TypeId) : Bool := match P.underlying T with | some (.struct _) => true | some (.array _ _) => true | _ => false
def vOf (P : Program) (T : TypeId) (ks : List IntKind) (xs : List Int) : Value := if isAggB P T then .agg (mkI ks xs).toArray else (mkI ks xs).headD undef
section
variable {P : Program} {w : World}
theorem run_isAggB {T : TypeId} {d : TypeDesc} (h : P.underlying T = some d) : (isAgg T).run P w = .ok (isAggB P T) w := by
 unfold isAgg isAggB
 rw [Sem.run_bind, run_underlying h w, h]
 cases d <;> rfl
theorem flatK_und {d : Nat} {T : TypeId} {ks : List IntKind} (h : flatK P d T = some ks) : ∃ de, P.underlying T = some de := by
 cases d with
 | zero => simp [flatK] at h
 | succ d =>
  unfold flatK at h
  split at h <;> first | exact ⟨_, by assumption⟩ | simp at h
theorem run_part {d : Nat} {T : TypeId} {ks : List IntKind} (hk : flatK P d T = some ks) (hs : (P.info? T).map (·.size) = some ks.length) {K : List IntKind} {X : List Int} {off : Nat} {r : List IntKind}
  (hK : K.drop off = ks ++ r) (hl : K.length = X.length) (h1 : isAggB P T = false → ks.length = 1) :
  (part T (mkI K X).toArray off).run P w = .ok (vOf P T ks ((X.drop off).take ks.length)) w := by
 obtain ⟨de, hu⟩ := flatK_und hk
 unfold part
 simp only [Sem.run_bind, run_isAggB hu, Result.andThen_ok]
 have hdt : ((mkI K X).drop off).take ks.length = mkI ks ((X.drop off).take ks.length) := by
  rw [mkI_drop, mkI_take, hK, List.take_left]
 cases hb : isAggB P T with
 | true =>
  simp only [if_true, Sem.run_bind, run_sizeOf hs, Result.andThen_ok, Sem.run_pure, vOf, hb]
  congr 2
  apply Array.ext'
  rw [← hdt]
  simp [List.take_drop]
 | false =>
  have hk1 := h1 hb
  simp only [Bool.false_eq_true, if_false, vOf, hb]
  rw [← hdt, hk1]
  have hlt : off < (mkI K X).length := by
   rw [mkI_length hl]
   have := congrArg List.length hK
   simp at this; omega
  have : (mkI K X).toArray[off]? = some (mkI K X)[off] := by simp [hlt]
  rw [this]
  simp only [Sem.run_pure]
  congr 1
  cases hd : (mkI K X).drop off with
  | nil => have := congrArg List.length hd; simp at this; omega
  | cons v l =>
   have : (mkI K X)[off] = v := by
    have h2 : ((mkI K X).drop off)[0]? = some v := by rw [hd]; rfl
    rw [List.getElem?_drop] at h2
    simpa [hlt] using h2
   simp [this]
theorem flat_one {d : Nat} {T : TypeId} {ks : List IntKind} (hk : flatK P d T = some ks) (hb : isAggB P T = false) : ks.length = 1 := by
 cases d with
 | zero => simp [flatK] at hk
 | succ d =>
  unfold flatK at hk
  unfold isAggB at hb
  split at hk
  ·simp at hk; subst hk; rfl
  ·rename_i h; simp [h] at hb
  ·rename_i h; simp [h] at hb
  ·simp at hk
theorem take_drop_eq {X Y : List Int} {off m : Nat} (_ : X.length = Y.length) : (X.drop off = Y.drop off) ↔ ((X.drop off).take m = (Y.drop off).take m ∧ X.drop (off + m) = Y.drop (off + m)) := by
 constructor
 ·intro e; exact ⟨by rw [e], by rw [← List.drop_drop, ← List.drop_drop, e]⟩
 ·rintro ⟨h1, h2⟩
  rw [← List.take_append_drop m (X.drop off), ← List.take_append_drop m (Y.drop off), h1, List.drop_drop, List.drop_drop, h2]
theorem run_eqFields {d d' : Nat} (ih : ∀ T ks, flatK P d T = some ks → ∀ (xs ys : List Int) (w : World), xs.length = ks.length → ys.length = ks.length →
   (Op.equalIn d' T (vOf P T ks xs) (vOf P T ks ys)).run P w = .ok (decide (xs = ys)) w) {K : List IntKind} {X Y : List Int} (hX : K.length = X.length) (hY : K.length = Y.length) :
  ∀ (fs : List Field) (off : Nat) (ks : List IntKind) (w : World), flatFs (flatK P d) (fun t => (P.info? t).map (·.size)) fs off = some ks → K.drop off = ks →
   (Op.eqFields d' (mkI K X).toArray (mkI K Y).toArray fs).run P w = .ok (decide (X.drop off = Y.drop off)) w
 | [], off, ks, w, hf, hK => by
  simp [flatFs] at hf
  subst hf
  have : X.length ≤ off := by have := congrArg List.length hK; simp at this; omega
  have h2 : Y.length ≤ off := by have := congrArg List.length hK; simp at this; omega
  simp [Op.eqFields, List.drop_eq_nil_of_le this, List.drop_eq_nil_of_le h2]
 | f :: fs, off, ks, w, hf, hK => by
  unfold flatFs at hf
  split at hf
  ·rename_i ks' s r hk hs hr
   split at hf
   ·rename_i hc
    obtain ⟨hn, ho, rfl⟩ := hc
    simp only [Option.some.injEq] at hf
    subst hf
    rw [hk] at hr
    simp only [Option.getD_some] at hr
    subst ho
    have hlen := congrArg List.length hK
    simp only [List.length_drop, List.length_append] at hlen
    have hne : K ≠ [] ∨ ks'.length = 0 := by
     cases ks' with
     | nil => exact .inr rfl
     | cons a l => left; intro e; simp [e] at hK
    have hoff : ks'.length = 0 ∨ f.offset + ks'.length ≤ K.length := by
     rcases Nat.eq_zero_or_pos ks'.length with h | h
     ·exact .inl h
     ·right; omega
    have lX : ((X.drop f.offset).take ks'.length).length = ks'.length := by simp; omega
    have lY : ((Y.drop f.offset).take ks'.length).length = ks'.length := by simp; omega
    have ihf := run_eqFields ih hX hY fs (f.offset + ks'.length) r w hr (by rw [← List.drop_drop, hK, List.drop_left])
    simp only [Op.eqFields]
    rw [if_pos hn]
    simp only [Sem.run_bind, run_part hk hs hK hX (flat_one hk), run_part hk hs hK hY (flat_one hk), Result.andThen_ok, ih _ _ hk _ _ _ lX lY]
    by_cases he : (X.drop f.offset).take ks'.length = (Y.drop f.offset).take ks'.length
    ·simp only [he, decide_true, Bool.not_true, Bool.false_eq_true, if_false, ihf]
     congr 1
     have := take_drop_eq (off := f.offset) (m := ks'.length) (show X.length = Y.length by omega)
     simp only [this, he, true_and]
    ·have hne : X.drop f.offset ≠ Y.drop f.offset := fun e => he (by rw [e])
     simp [he, hne]
   ·simp at hf
  ·simp at hf
def eqElems (d : Nat) (E : TypeId) (n : Nat) (xs ys : Array Value) : List Nat → Sem Bool
 | [] => pure true
 | i :: l => do
  let a ← part E xs (i * n)
  let b ← part E ys (i * n)
  let r ← Op.equalIn d E a b
  if (!r) = true then pure false else eqElems d E n xs ys l
theorem run_equalIn_array {d : Nat} {T E : TypeId} {m s : Nat} (hu : P.underlying T = some (.array m E)) (hs : (P.info? E).map (·.size) = some s) (xs ys : Array Value) :
  (Op.equalIn (d + 1) T (.agg xs) (.agg ys)).run P w = (eqElems d E s xs ys (List.range' 0 m)).run P w := by
 simp only [Op.equalIn, Sem.run_bind, run_underlying hu, Result.andThen_ok, run_sizeOf hs]
 rw [Std.Legacy.Range.forIn_eq_forIn_range']
 simp only [Std.Legacy.Range.size, Nat.sub_zero, Nat.add_sub_cancel, Nat.div_one]
 generalize List.range' 0 m = l
 induction l generalizing w with
 | nil => simp [eqElems]
 | cons i l ih =>
  simp only [List.forIn_cons, eqElems, Sem.run_bind, Sem.run_ite]
  generalize (part E xs (i * s)).run P w = r1
  cases r1 with
  | halt x w1 => simp [Result.andThen]
  | ok a w1 =>
   simp only [Result.andThen_ok]
   generalize (part E ys (i * s)).run P w1 = r2
   cases r2 with
   | halt x w2 => simp [Result.andThen]
   | ok b w2 =>
    simp only [Result.andThen_ok]
    generalize (Op.equalIn d E a b).run P w2 = r3
    cases r3 with
    | halt x w3 => simp [Result.andThen]
    | ok r w3 =>
     cases r
     ·simp only [Result.andThen_ok, Bool.not_false, if_true, Sem.run_pure]
     ·simp only [Result.andThen_ok, Bool.not_true, Bool.false_eq_true, if_false, Sem.run_pure]
      exact ih (w := w3)
theorem flatten_drop {ks : List IntKind} : ∀ (m i : Nat), i < m → ((List.replicate m ks).flatten).drop (i * ks.length) = ks ++ (List.replicate (m - i - 1) ks).flatten
 | 0, i, h => by omega
 | m + 1, 0, _ => by simp [List.replicate_succ]
 | m + 1, i + 1, h => by
  have := flatten_drop (ks := ks) m i (by omega)
  rw [List.replicate_succ, List.flatten_cons, Nat.add_mul, Nat.one_mul, Nat.add_comm, ← List.drop_drop, List.drop_left, this]
  congr 3
  omega
theorem run_eqElems {d d' : Nat} {E : TypeId} {ks : List IntKind} (ih : ∀ (xs ys : List Int) (w : World), xs.length = ks.length → ys.length = ks.length →
   (Op.equalIn d' E (vOf P E ks xs) (vOf P E ks ys)).run P w = .ok (decide (xs = ys)) w) (hk : flatK P d E = some ks) (hs : (P.info? E).map (·.size) = some ks.length)
  {m : Nat} {X Y : List Int} (hX : (List.replicate m ks).flatten.length = X.length) (hY : (List.replicate m ks).flatten.length = Y.length) :
  ∀ (c i : Nat) (w : World), i + c = m → (eqElems d' E ks.length (mkI (List.replicate m ks).flatten X).toArray (mkI (List.replicate m ks).flatten Y).toArray (List.range' i c)).run P w = .ok (decide (X.drop (i * ks.length) = Y.drop (i * ks.length))) w
 | 0, i, w, hi => by
  have hl : (List.replicate m ks).flatten.length = m * ks.length := by simp
  have h1 : X.length ≤ i * ks.length := by rw [← hX, hl]; exact Nat.mul_le_mul_right _ (by omega)
  have h2 : Y.length ≤ i * ks.length := by rw [← hY, hl]; exact Nat.mul_le_mul_right _ (by omega)
  simp [eqElems, List.drop_eq_nil_of_le h1, List.drop_eq_nil_of_le h2]
 | c + 1, i, w, hi => by
  have hl : (List.replicate m ks).flatten.length = m * ks.length := by simp
  have hd := flatten_drop (ks := ks) m i (by omega)
  have hle : i * ks.length + ks.length ≤ m * ks.length := by
   have := Nat.mul_le_mul_right ks.length (show i + 1 ≤ m by omega)
   rwa [Nat.add_mul, Nat.one_mul] at this
  have lX : ((X.drop (i * ks.length)).take ks.length).length = ks.length := by simp; omega
  have lY : ((Y.drop (i * ks.length)).take ks.length).length = ks.length := by simp; omega
  have ihc := run_eqElems ih hk hs hX hY c (i + 1) w (by omega)
  simp only [List.range'_succ, eqElems, Sem.run_bind, run_part hk hs hd hX (flat_one hk), run_part hk hs hd hY (flat_one hk), Result.andThen_ok, ih _ _ _ lX lY]
  by_cases he : (X.drop (i * ks.length)).take ks.length = (Y.drop (i * ks.length)).take ks.length
  ·simp only [he, decide_true, Bool.not_true, Bool.false_eq_true, if_false, ihc]
   congr 1
   have := take_drop_eq (off := i * ks.length) (m := ks.length) (show X.length = Y.length by omega)
   simp only [this, he, true_and, Nat.add_mul, Nat.one_mul]
  ·have hne : X.drop (i * ks.length) ≠ Y.drop (i * ks.length) := fun e => he (by rw [e])
   simp [he, hne]
theorem run_equalIn_flat : ∀ (d d' : Nat) (T : TypeId) (ks : List IntKind), flatK P d T = some ks → d ≤ d' → ∀ (xs ys : List Int) (w : World), xs.length = ks.length → ys.length = ks.length →
   (Op.equalIn d' T (vOf P T ks xs) (vOf P T ks ys)).run P w = .ok (decide (xs = ys)) w
 | 0, _, _, _, h, _, _, _, _, _, _ => by simp [flatK] at h
 | d + 1, 0, _, _, _, h, _, _, _, _, _ => by omega
 | d + 1, d' + 1, T, ks, h, hd, xs, ys, w, hx, hy => by
  have ih := run_equalIn_flat d d'
  unfold flatK at h
  split at h
  ·rename_i k hu
   simp only [Option.some.injEq] at h
   subst h
   obtain ⟨x, rfl⟩ : ∃ x, xs = [x] := by
    match xs, hx with
    | [x], _ => exact ⟨x, rfl⟩
   obtain ⟨y, rfl⟩ : ∃ y, ys = [y] := by
    match ys, hy with
    | [y], _ => exact ⟨y, rfl⟩
   have hb : isAggB P T = false := by simp [isAggB, hu]
   simp only [vOf, hb, Bool.false_eq_true, if_false, mkI, List.zipWith_cons_cons, List.zipWith_nil_left, List.headD_cons]
   rw [run_equalIn_int w d' T k k x y hu]
   by_cases hxy : x = y <;> simp [hxy]
  ·rename_i m E hu
   split at h
   ·rename_i ks' s hk hs
    split at h
    ·rename_i hse
     subst hse
     simp only [Option.some.injEq] at h
     subst h
     have hb : isAggB P T = true := by simp [isAggB, hu]
     simp only [vOf, hb, if_true]
     rw [run_equalIn_array hu hs, run_eqElems (d := d) (fun xs ys w => ih E ks' hk (by omega) xs ys w) hk hs hx.symm hy.symm m 0 w (by omega)]
     simp
    ·simp at h
   ·simp at h
  ·rename_i fs hu
   split at h
   ·simp at h
   ·rename_i hst
    have hb : isAggB P T = true := by simp [isAggB, hu]
    simp only [vOf, hb, if_true]
    have hfo : P.fieldsOf T = fs := by simp [Program.fieldsOf, hu]
    rw [run_equalIn_struct w d' T _ _ (by rw [hfo]; exact hu) (by simpa using hst), hfo,
     run_eqFields (d := d) (fun T ks hk xs ys w => ih T ks hk (by omega) xs ys w) hx.symm hy.symm fs.toList 0 ks w h (by simp)]
    simp
  ·simp at h
class TFlat (P : Program) (T : TypeId) (ks : outParam (List IntKind)) : Prop where
 h : flatK P 12 T = some ks
 a : isAggB P T = true
 g : P.eqGuardType P.depth T = false
variable {n : Nat} {env : Env} {dst : Option Tmp} {ty : TypeId} {pos : String} {aft : Array Edge} {g : Option (Nat × Bool)}
theorem x_eql_flat {T T' : TypeId} {ks : List IntKind} [hT : TFlat P T ks] {x y : Operand} {xs ys : List Int} (hx : ev n env x = .agg (mkI ks xs).toArray) (hy : ev n env y = .agg (mkI ks ys).toArray)
  (lx : xs.length = ks.length) (ly : ys.length = ks.length) : Run P n env ⟨dst, .binOp .eql T x y T', ty, pos, aft, g⟩ w (.ok (.value (.bool (decide (xs = ys)))) w) := by
 have h := run_equalIn_flat (P := P) 12 10000 T ks hT.h (by omega) xs ys w lx ly
 simp only [vOf, hT.a, if_true] at h
 unfold Run
 simp [execOp, hx, hy, run_eqGuard_agg w .eql T x y _ _ hT.g, run_eql_struct, h]
theorem x_neq_flat {T T' : TypeId} {ks : List IntKind} [hT : TFlat P T ks] {x y : Operand} {xs ys : List Int} (hx : ev n env x = .agg (mkI ks xs).toArray) (hy : ev n env y = .agg (mkI ks ys).toArray)
  (lx : xs.length = ks.length) (ly : ys.length = ks.length) : Run P n env ⟨dst, .binOp .neq T x y T', ty, pos, aft, g⟩ w (.ok (.value (.bool (decide (xs ≠ ys)))) w) := by
 have h := run_equalIn_flat (P := P) 12 10000 T ks hT.h (by omega) xs ys w lx ly
 simp only [vOf, hT.a, if_true] at h
 unfold Run
 simp [execOp, hx, hy, run_eqGuard_agg w .neq T x y _ _ hT.g, run_neq_struct, h]
theorem mkI_get {K : List IntKind} {X : List Int} {i : Nat} {k : IntKind} (hk : K[i]? = some k) (hl : K.length = X.length) : (mkI K X)[i]? = some (.int k (X.getD i 0)) := by
 have hi : i < K.length := (List.getElem?_eq_some_iff.1 hk).1
 simp [mkI, List.getElem?_zipWith, hk, List.getD, show i < X.length by omega]
theorem x_load_fl {T : TypeId} {s : Nat} {K ks : List IntKind} [TFlat P T ks] [TAgg P T s] {x : Operand} {b off : Nat} {E : TypeId} {fz : Nat × Nat} {X : List Int} (hx : ev n env x = .pointer (some ⟨b, off, none⟩))
  (hb : Blk w b E fz (mkI K X)) (hK : (K.drop off).take ks.length = ks) (hl : K.length = X.length) (hsz : s = ks.length) :
  Run P n env ⟨dst, .load T x, ty, pos, aft, g⟩ w (.ok (.value (.agg (mkI ks ((X.drop off).take ks.length)).toArray)) w) := by
 have hlen := congrArg List.length hK
 simp only [List.length_take, List.length_drop] at hlen
 refine x_loadN (T := T) hx hb (by rw [mkI_length (by simp; omega)]; exact hsz.symm) (fun j hj => ?_)
 subst hsz
 have e : mkI ks ((X.drop off).take ks.length) = ((mkI K X).drop off).take ks.length := by rw [mkI_drop, mkI_take, hK]
 rw [e, List.getElem?_take, if_pos hj, List.getElem?_drop]
theorem x_load_flw {T : TypeId} {s : Nat} {ks : List IntKind} [TFlat P T ks] [TAgg P T s] {x : Operand} {b : Nat} {E : TypeId} {fz : Nat × Nat} {X : List Int} (hx : ev n env x = .pointer (some ⟨b, 0, none⟩))
  (hb : Blk w b E fz (mkI ks X)) (hl : ks.length = X.length) (hsz : s = ks.length) :
  Run P n env ⟨dst, .load T x, ty, pos, aft, g⟩ w (.ok (.value (.agg (mkI ks X).toArray)) w) :=
 x_loadN (T := T) hx hb (by rw [mkI_length hl]; exact hsz.symm) (fun j _ => by rw [Nat.zero_add])
theorem x_load_fl1 {T : TypeId} {K : List IntKind} {k : IntKind} [TOne P T] {x : Operand} {b off : Nat} {E : TypeId} {fz : Nat × Nat} {X : List Int} (hx : ev n env x = .pointer (some ⟨b, off, none⟩))
  (hb : Blk w b E fz (mkI K X)) (hK : K[off]? = some k) (hl : K.length = X.length) :
  Run P n env ⟨dst, .load T x, ty, pos, aft, g⟩ w (.ok (.value (.int k (X.getD off 0))) w) :=
 x_load1 hx hb (mkI_get hK hl)
def layI (X : List Int) (o : Nat) (Y : List Int) : List Int := X.take o ++ Y ++ X.drop (o + Y.length)
theorem layI_length {X Y : List Int} {o : Nat} (h : o + Y.length ≤ X.length) : (layI X o Y).length = X.length := by
 simp [layI]; omega
theorem lay_mkI {K ks : List IntKind} {X Y : List Int} {off : Nat} (hK : (K.drop off).take ks.length = ks) (hl : K.length = X.length) (hy : ks.length = Y.length) : lay (mkI K X) off (mkI ks Y) = mkI K (layI X off Y) := by
 have hlen := congrArg List.length hK
 simp only [List.length_take, List.length_drop] at hlen
 have hks : K = K.take off ++ ks ++ K.drop (off + ks.length) := by
  conv => lhs; rw [← List.take_append_drop off K, ← List.take_append_drop ks.length (K.drop off), hK, List.drop_drop]
  rw [List.append_assoc]
 unfold lay layI
 rw [mkI_take, mkI_drop, mkI_length hy]
 have hle : off ≤ K.length ∨ ks.length = 0 := by omega
 rcases Nat.eq_zero_or_pos ks.length with h0 | hpos
 ·have hks0 : ks = [] := List.eq_nil_of_length_eq_zero h0
  have hY0 : Y = [] := List.eq_nil_of_length_eq_zero (by omega)
  subst hks0; subst hY0
  simp [mkI, ← List.take_zipWith, ← List.drop_zipWith, List.take_append_drop]
 ·conv => rhs; rw [hks]
  rw [mkI_append (by simp; omega), mkI_append (by simp; omega), ← hy]
theorem mkI_one (ks : List IntKind) (xs : List Int) : (mkI ks xs).all (·.oneCell') = true := by
 rw [List.all_eq_true]
 intro v hv
 induction ks generalizing xs with
 | nil => simp [mkI] at hv
 | cons k ks ih =>
  cases xs with
  | nil => simp [mkI] at hv
  | cons x xs =>
   simp only [mkI, List.zipWith_cons_cons, List.mem_cons] at hv
   rcases hv with rfl | hv
   ·rfl
   ·exact ih xs hv
variable {f : Fm} {R : Ending → World → Prop} {k : List Item} {pre rest : List Oper}
theorem AtG_store_fl {T : TypeId} {s : Nat} {K ks : List IntKind} [TFlat P T ks] [hs : TSz P T s] {x y : Operand} {b off : Nat} {E : TypeId} {X Y : List Int} (hx : ev n env x = .pointer (some ⟨b, off, none⟩))
  (hy : ev n env y = .agg (mkI ks Y).toArray) (hb : Blk w b E (0, 0) (mkI K X)) (hK : (K.drop off).take ks.length = ks) (hl : K.length = X.length) (hly : ks.length = Y.length) (hsz : s = ks.length)
  (h : ∀ w', Eff w w' b (.cells (mkI K (layI X off Y)).toArray E (0, 0)) → AtR P f n R (⟨dst, .store T x y, ty, pos, aft, g⟩ :: pre) rest k (updo env dst undef) w') :
  AtG P f n R pre ⟨dst, .store T x y, ty, pos, aft, g⟩ rest k env w := by
 have hlen := congrArg List.length hK
 simp only [List.length_take, List.length_drop] at hlen
 rcases Nat.eq_zero_or_pos ks.length with h0 | hpos
 ·have hks0 : ks = [] := List.eq_nil_of_length_eq_zero h0
  have hY0 : Y = [] := List.eq_nil_of_length_eq_zero (by omega)
  subst hks0; subst hY0; subst hsz
  refine AtG_skip (w' := w) ?_ (h w ⟨rfl, rfl, rfl, Nat.le_refl _, hb.lt, ?_, fun _ _ _ => rfl⟩)
  ·unfold Run
   simp [execOp, Instr.storeAt, hx, hy, Instr.sureAddr, storeVar, run_sizeOf hs.h, Value.cells, mkI, storeCells]
  ·have : layI X off [] = X := by simp [layI]
   rw [this]; exact hb
 ·refine AtG_storeN (s := s) hx hy hb (by rw [mkI_length hly]; exact hsz.symm) (by rw [mkI_length hl]; omega) (mkI_one _ _) (fun w' he => ?_)
  rw [lay_mkI hK hl hly] at he
  exact h w' he
theorem mkI_zeros (ks : List IntKind) : mkI ks (List.replicate ks.length 0) = ks.map fun k => Value.int k 0 := by
 induction ks with
 | nil => rfl
 | cons k ks ih => simp only [List.length_cons, List.replicate_succ, mkI, List.zipWith_cons_cons, List.map_cons]; rw [← ih]; rfl
theorem AtG_alloc_fl {T : TypeId} {ks : List IntKind} {z : List Value} [TFlat P T ks] [TZ P T (.agg z.toArray)] (hz : z = ks.map fun k => Value.int k 0)
  (h : ∀ b w', b = w.heap.size → Eff w w' b (.cells (mkI ks (List.replicate ks.length 0)).toArray T (0, 0)) → AtR P f n R (⟨dst, .alloc T, ty, pos, aft, g⟩ :: pre) rest k (updo env dst (.pointer (some ⟨b, 0, none⟩))) w') :
  AtG P f n R pre ⟨dst, .alloc T, ty, pos, aft, g⟩ rest k env w :=
 AtG_alloc (z := .agg z.toArray) fun b w' hb he => h b w' hb (by rw [mkI_zeros, ← hz]; exact he)
theorem run_load_agg_cells {T : TypeId} {s : Nat} [TAgg P T s] {b : Nat} {E : TypeId} {fz : Nat × Nat} {cs : List Value} (hb : Blk w b E fz cs) (hl : cs.length = s) : (loadVar T ⟨b, 0, none⟩).run P w = .ok (.agg cs.toArray) w :=
 run_loadVar_agg hb hl (fun j _ => by rw [Nat.zero_add])
theorem At_ret_cell {fn : Func} {t : Tmp} {T : TypeId} {s : Nat} [TAgg P T s] {b : Nat} {E : TypeId} {fz : Nat × Nat} {cs : List Value} (hf : P.funcs[f.fn]? = some fn) (hr : fn.results = #[.cell t T])
  (hv : ev n env (.tmp t) = .pointer (some ⟨b, 0, none⟩)) (hb : Blk w b E fz cs) (hl : cs.length = s) (h : R (.returned (.agg cs.toArray)) w) (h0 : f.round = none := by rfl) (hd0 : f.ds = [] := by rfl) : At P f n R (.code .ret :: k) env w := by
 refine At_ret hf ?_ h h0 hd0
 have h1 := congrFun (eval_mkA n env) (.tmp t)
 rw [hv] at h1
 have h2 : (mkA n env).tmps[t]?.getD undef = .pointer (some ⟨b, 0, none⟩) := by simpa [Act.eval] using h1
 simp [results, hr, h2, asAddr, run_load_agg_cells hb hl]
theorem At_ret_cell2 {fn : Func} {t u : Tmp} {v : Value} {T : TypeId} {s : Nat} [TAgg P T s] {b : Nat} {E : TypeId} {fz : Nat × Nat} {cs : List Value} (hf : P.funcs[f.fn]? = some fn) (hr : fn.results = #[.cell t T, .tmp u])
  (hv : ev n env (.tmp t) = .pointer (some ⟨b, 0, none⟩)) (hb : Blk w b E fz cs) (hl : cs.length = s) (hu : ev n env (.tmp u) = v) (h : R (.returned (.tuple #[.agg cs.toArray, v])) w) (h0 : f.round = none := by rfl) (hd0 : f.ds = [] := by rfl) : At P f n R (.code .ret :: k) env w := by
 refine At_ret hf ?_ h h0 hd0
 have h1 := congrFun (eval_mkA n env) (.tmp t)
 rw [hv] at h1
 have h2 : (mkA n env).tmps[t]?.getD undef = .pointer (some ⟨b, 0, none⟩) := by simpa [Act.eval] using h1
 have h3 := congrFun (eval_mkA n env) (.tmp u)
 rw [hu] at h3
 have h4 : (mkA n env).tmps[u]?.getD undef = v := by simpa [Act.eval] using h3
 simp [results, hr, h2, h4, asAddr, run_load_agg_cells hb hl]
theorem x_build {T : TypeId} {parts : List (Nat × Operand)} {pl : List (Nat × Value)} {cs : List Value} (hp : parts.map (fun p => (p.1, ev n env p.2)) = pl) (hb : P.built T pl = some cs.toArray) :
  Run P n env ⟨dst, .build T parts.toArray, ty, pos, aft, g⟩ w (.ok (.value (.agg cs.toArray)) w) := by
 have h := run_build (P := P) w T pl.toArray cs.toArray (by simpa using hb)
 have e : parts.toArray.map (fun (i, x) => (i, ev n env x)) = pl.toArray := by
  rw [← hp]; simp
 unfold Run
 simp only [execOp, e, Sem.run_bind, h, Result.andThen_ok, Sem.run_pure]
end
end Go.Kx
