/- A region that draws its order: what only reads is taken first, under a condition S on the world that is shown anew behind each operation that changes it. Own work; nothing of a program is named here. -/
import Derived.Test.YtgobmphkakmdmaaDoorKc
import Derived.OrdersHeld
import Derived.KernelRfl
namespace Go.Kx
open Go
theorem Kp.drew {S : Nat → Prop} {w : World} : Kp S w w.drew := ⟨rfl, rfl, rfl, Nat.le_refl _, fun _ _ _ => rfl⟩
theorem Kp.of_drew {S : Nat → Prop} {w w' : World} (h : Kp S w.drew w') : Kp S w w' := ⟨h.os, h.tape, h.output, h.size, h.keep⟩
section
attribute [local semireducible] At AtR AtG Run
variable {P : Program} {f : Fm} {n : Nat} {R : Ending → World → Prop} {k : List Item} {env : Env} {w : World} {S : World → Prop} {ops : Array Oper}
def AtQ (P : Program) (f : Fm) (n : Nat) (R : Ending → World → Prop) (k : List Item) : Exit → Act → World → Prop := fun e a w => e = .normal ∧ ∃ env, a = mkF f n env ∧ At P f n R k env w
theorem At_wp {c : Code} (h : c.wp P (AtQ P f n R k) (mkF f n env) w) (h0 : f.round = none := by rfl) : At P f n R (.code c :: k) env w := by
  intro cs
  obtain ⟨e, a', w', ⟨rfl, env', rfl, h'⟩, harr⟩ := h (fr0 f) k cs
  obtain ⟨e, w'', fr, hR, hc, rest⟩ := h' cs
  have hr : (fr0 f).roundOf = none := h0
  rw [Frame.atR_of_none hr] at hc ⊢
  exact ⟨e, w'', fr, hR, .of_steps harr hc, rest⟩
/-- Of the region's operations those that are marked in 'listed' have come up; the others come up in whatever order. -/
def AtH (P : Program) (f : Fm) (n : Nat) (R : Ending → World → Prop) (ops : Array Oper) (S : World → Prop) (k : List Item) (fuel : Nat) (listed : Array Bool) (env : Env) (w : World) : Prop :=
  wpAnyH P .any ops (AtQ P f n R k) S fuel listed (mkF f n env) w
theorem At_draw {id : Nat} (S : World → Prop) (hm : P.follows .mixedOrders = true) (h : AtH P f n R ops S k ops.size (Array.replicate ops.size false) env w.drew) (h0 : f.round = none := by rfl) :
    At P f n R (.code (.region id ops true) :: k) env w :=
  At_wp (wp_region_held (S := S) hm h) h0
theorem AtH_done {fuel : Nat} {listed : Array Bool} (hr : (Region.ready .any ops listed).isEmpty = true) (h : At P f n R k env w) : AtH P f n R ops S k fuel listed env w :=
  wpAnyH_done (by simpa using hr) ⟨rfl, env, rfl, h⟩ fuel
/-- May it be taken first? -/
def canTake (ops : Array Oper) (listed : Array Bool) (i : Nat) : Bool :=
  Region.noSelect ops && Region.free .any ops listed i && (Region.ready .any ops listed).contains i
theorem wanted_none {o : Oper} {y : Nat → Option Bool} (h : o.guard = none) : Region.wanted o y = true := by simp [Region.wanted, h]
/-- The guard of o says b'. -/
def gsays (ops : Array Oper) (n : Nat) (env : Env) (o : Oper) (yes : Bool) : Prop :=
  match o.guard with
  | none => yes = true
  | some (j, b) => ∃ d b', ((ops[j]?).bind (·.dst)) = some d ∧ d < n ∧ env d = .bool b' ∧ yes = (b == b')
theorem wanted_gsays {o : Oper} {yes : Bool} (h : gsays ops n env o yes) : Region.wanted o (yielded ops (mkF f n env).tmps) = yes := by
  show Region.wanted o (yielded ops (mkA n env).tmps) = yes
  unfold gsays at h
  unfold Region.wanted
  split at h
  · rename_i hg; simp [hg, h]
  · rename_i j b hg
    obtain ⟨d, b', hj, hd, hb, rfl⟩ := h
    have : yielded ops (mkA n env).tmps j = some b' := by
      simp only [yielded, hj, Option.bind_some, mkA_get? n env d hd, hb]
    rw [hg]
    simp only [this]
    cases b <;> cases b' <;> rfl
theorem AtH_take {fuel : Nat} {listed : Array Bool} (i : Nat) {o : Oper} {v : Value} (hi : ops[i]? = some o) (hc : canTake ops listed i = true) (hg : gsays ops n env o true)
    (hr : ∀ w, S w → Run P n env o w (.ok (.value v) w)) (hS : S w) (h : AtH P f n R ops S k fuel (listed.setIfInBounds i true) (updo env o.dst v) w) :
    AtH P f n R ops S k (fuel + 1) listed env w := by
  simp only [canTake, Bool.and_eq_true] at hc
  refine wpAnyH_take hi hc.1.1 hc.1.2 hc.2 (fun _ _ _ hq => absurd hq.1 (by simp)) (v := v) (.inl ⟨wanted_gsays hg, fun w hw => ?_⟩) hS ?_
  · rw [eval_mkF]; exact hr w hw
  · rw [mkF_put]; exact h
theorem AtH_bool {fuel : Nat} {listed : Array Bool} (i : Nat) {o : Oper} {p bv : Bool} (hi : ops[i]? = some o) (hc : canTake ops listed i = true) (hg : gsays ops n env o true)
    (hr : ∀ w, S w → Run P n env o w (.ok (.value (.bool p)) w)) (hp : p = bv) (hS : S w) (h : AtH P f n R ops S k fuel (listed.setIfInBounds i true) (updo env o.dst (.bool bv)) w) :
    AtH P f n R ops S k (fuel + 1) listed env w := by
  subst hp; exact AtH_take i hi hc hg hr hS h
/-- One whose guard says no. -/
theorem AtH_no {fuel : Nat} {listed : Array Bool} (i : Nat) {o : Oper} (hi : ops[i]? = some o) (hc : canTake ops listed i = true) (hg : gsays ops n env o false)
    (hS : S w) (h : AtH P f n R ops S k fuel (listed.setIfInBounds i true) (updo env o.dst undef) w) :
    AtH P f n R ops S k (fuel + 1) listed env w := by
  simp only [canTake, Bool.and_eq_true] at hc
  refine wpAnyH_take hi hc.1.1 hc.1.2 hc.2 (fun _ _ _ hq => absurd hq.1 (by simp)) (v := undef) (.inr ⟨wanted_gsays hg, rfl⟩) hS ?_
  rw [mkF_put]; exact h
theorem AtH_op {fuel : Nat} {listed : Array Bool} (i : Nat) (hr : Region.ready .any ops listed = [i])
    (h : wpOp P ops (AtQ P f n R k) i (fun a' w' => S w' ∧ wpAnyH P .any ops (AtQ P f n R k) S fuel (listed.setIfInBounds i true) a' w') (mkF f n env) w) : AtH P f n R ops S k (fuel + 1) listed env w :=
  wpAnyH_all hr (by simp) (fun j hj => by
    have : j = i := by simpa using hj
    subst this; exact h)
/-- The one that may come up now yields a value. -/
theorem AtH_val {fuel : Nat} {listed : Array Bool} (i : Nat) {o : Oper} {v : Value} {w' : World} (hi : ops[i]? = some o) (hr : Region.ready .any ops listed = [i]) (hg : gsays ops n env o true)
    (hrun : Run P n env o w (.ok (.value v) w')) (hS : S w') (h : AtH P f n R ops S k fuel (listed.setIfInBounds i true) (updo env o.dst v) w') : AtH P f n R ops S k (fuel + 1) listed env w := by
  refine AtH_op i hr ?_
  unfold wpOp
  simp only [hi]
  rw [if_pos (wanted_gsays hg)]
  refine .inl ?_
  unfold Run at hrun
  unfold Oper.wp
  rw [eval_mkF, hrun]
  simp only [Oper.upon, mkF_put]
  exact ⟨hS, h⟩
theorem AtH_skip {fuel : Nat} {listed : Array Bool} (i : Nat) {o : Oper} {w' : World} (hi : ops[i]? = some o) (hr : Region.ready .any ops listed = [i]) (hg : gsays ops n env o true)
    (hrun : Run P n env o w (.ok .skip w')) (hS : S w') (h : AtH P f n R ops S k fuel (listed.setIfInBounds i true) (updo env o.dst undef) w') : AtH P f n R ops S k (fuel + 1) listed env w := by
  refine AtH_op i hr ?_
  unfold wpOp
  simp only [hi]
  rw [if_pos (wanted_gsays hg)]
  refine .inl ?_
  unfold Run at hrun
  unfold Oper.wp
  rw [eval_mkF, hrun]
  simp only [Oper.upon, mkF_put]
  exact ⟨hS, h⟩
theorem AtH_call {fuel : Nat} {listed : Array Bool} (i : Nat) {o : Oper} {gf : FuncId} {args : Array Value} {w' : World} {Q : Ending → World → Prop} (hi : ops[i]? = some o) (hr : Region.ready .any ops listed = [i]) (hg : gsays ops n env o true)
    (hrun : Run P n env o w (.ok (.enter gf args) w')) (hc : Calls P gf args w' Q)
    (h : ∀ e w'', Q e w'' → ∃ v, e = .returned v ∧ S w'' ∧ AtH P f n R ops S k fuel (listed.setIfInBounds i true) (updo env o.dst v) w'') : AtH P f n R ops S k (fuel + 1) listed env w := by
  refine AtH_op i hr ?_
  unfold wpOp
  simp only [hi]
  rw [if_pos (wanted_gsays hg)]
  refine .inl ?_
  unfold Run at hrun
  unfold Oper.wp
  rw [eval_mkF, hrun]
  simp only [Oper.upon]
  refine hc.mono fun e w'' hq => ?_
  obtain ⟨v, rfl, hS, h'⟩ := h e w'' hq
  simp only [mkF_put]
  exact ⟨hS, h'⟩
end
attribute [irreducible] AtH
end Go.Kx
