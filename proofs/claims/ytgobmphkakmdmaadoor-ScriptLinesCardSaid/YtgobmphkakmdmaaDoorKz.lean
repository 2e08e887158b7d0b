/- A region that draws its order, with one operation f that comes behind all that is taken: behind it the condition S need not hold. Own work (after the kit's law without such an f); nothing of a program is named here. -/
import Derived.Test.YtgobmphkakmdmaaDoorKk
set_option linter.unusedVariables false
namespace Go.Kx
open Go
section
variable {P : Program} {ops : Array Oper} {Q : Exit → Act → World → Prop} {md : Region.Mode} {S : World → Prop}
def wpAnyL (P : Program) (md : Region.Mode) (ops : Array Oper) (Q : Exit → Act → World → Prop) (S : World → Prop) (f : Nat) : Nat → Array Bool → Act → World → Prop
  | 0, listed, a, w => Region.ready md ops listed = [] ∧ Q .normal a w
  | fuel + 1, listed, a, w =>
    (Region.ready md ops listed = [] → Q .normal a w) ∧
    ∀ i ∈ Region.ready md ops listed, wpOp P ops Q i (fun a' w' => (i = f ∨ S w') ∧ wpAnyL P md ops Q S f fuel (listed.setIfInBounds i true) a' w') a w
theorem wpAny_of_L {f : Nat} : ∀ (fuel : Nat) (listed : Array Bool) (a : Act) (w : World), wpAnyL P md ops Q S f fuel listed a w → wpAny P md ops Q fuel listed a w
  | 0, _, _, _, h => h
  | fuel + 1, _, _, _, h => ⟨h.1, fun i hi => wpOp_mono (fun a' w' h' => wpAny_of_L fuel _ a' w' h'.2) (h.2 i hi)⟩
/-- Does f wait for i? -/
def reaches (md : Region.Mode) (ops : Array Oper) : Nat → Nat → Nat → Bool
  | 0, _, _ => false
  | d + 1, f, i => match ops[f]? with
    | none => false
    | some o => o.after.any fun e => Region.binds md e && (e.on == i || reaches md ops d e.on i)
def Closed (md : Region.Mode) (ops : Array Oper) (listed : Array Bool) : Prop := ∀ k o, listed.getD k false = true → ops[k]? = some o → ∀ e ∈ o.after, Region.binds md e = true → listed.getD e.on false = true
def closedB (md : Region.Mode) (ops : Array Oper) (listed : Array Bool) : Bool :=
  (List.range ops.size).all fun k => !(listed.getD k false) || (match ops[k]? with | some o => o.after.all fun e => !(Region.binds md e) || listed.getD e.on false | none => true)
theorem closed_of {listed : Array Bool} (h : closedB md ops listed = true) : Closed md ops listed := by
  intro k o hk ho e he hb
  have hlt : k < ops.size := (Array.getElem?_eq_some_iff.1 ho).1
  have h1 := List.all_eq_true.1 h k (List.mem_range.2 hlt)
  simp only [hk, ho, Bool.not_true, Bool.false_or] at h1
  have h2 := Array.all_eq_true_iff_forall_mem.1 h1 e he
  simpa [hb] using h2
theorem closed_set {listed : Array Bool} {j : Nat} (hc : Closed md ops listed) (hj : j ∈ Region.ready md ops listed) : Closed md ops (listed.setIfInBounds j true) := by
  intro k o hk ho e he hb
  obtain ⟨_, oj, hoj, hall⟩ := mem_ready.1 hj
  by_cases hjk : j = k
  · subst hjk
    rw [hoj] at ho
    cases ho
    exact getD_set_true (hall e he hb)
  · have hk' : listed.getD k false = true := by
      simpa [Array.getElem?_setIfInBounds_ne hjk] using hk
    exact getD_set_true (hc k o hk' ho e he hb)
theorem reaches_listed {listed : Array Bool} {i : Nat} (hc : Closed md ops listed) : ∀ (d f : Nat) (o : Oper), ops[f]? = some o → (∀ e ∈ o.after, Region.binds md e = true → listed.getD e.on false = true) → reaches md ops d f i = true → listed.getD i false = true
  | 0, _, _, _, _, h => by simp [reaches] at h
  | d + 1, f, o, ho, hall, h => by
    simp only [reaches, ho] at h
    obtain ⟨ix, hix, h⟩ := Array.any_eq_true.1 h
    have he := Array.getElem_mem hix
    generalize o.after[ix] = e at he h
    simp only [Bool.and_eq_true, Bool.or_eq_true, beq_iff_eq] at h
    obtain ⟨hb, h⟩ := h
    have hl := hall e he hb
    rcases h with rfl | h
    · exact hl
    · cases ho' : ops[e.on]? with
      | none =>
        cases d with
        | zero => simp [reaches] at h
        | succ d => simp [reaches, ho'] at h
      | some o' => exact reaches_listed hc d e.on o' ho' (fun e' he' hb' => hc _ _ hl ho' e' he' hb') h
theorem unlisted_of {listed : Array Bool} {i : Nat} (h : listed.getD i true = false) : listed.getD i false = false := by
  rcases Nat.lt_or_ge i listed.size with h' | h'
  · simp [h'] at h ⊢; exact h
  · simp [Array.getElem?_eq_none h'] at h
theorem wpAnyL_first {f d i : Nat} {oi : Oper} {v : Value} (hi : ops[i]? = some oi) (hsel : ∀ (j : Nat) (o : Oper) cs b, ops[j]? = some o → o.op ≠ .select cs b)
    (hQ : ∀ c a w, Q (.panic c) (a.put oi.dst v) w → Q (.panic c) a w) (hre : reaches md ops d f i = true) :
    ∀ (fuel : Nat) (listed : Array Bool) (a : Act) (w : World), Closed md ops listed →
      (∀ j oj, ops[j]? = some oj → j ≠ i → listed.getD j true = false → (∀ e ∈ oj.after, Region.binds md e = true → e.on ≠ i) → oi.apart ops oj = true) →
      i ∈ Region.ready md ops listed → YieldsIf P ops S oi v a → S w →
      wpAnyL P md ops Q S f fuel (listed.setIfInBounds i true) (a.put oi.dst v) w → wpAnyL P md ops Q S f (fuel + 1) listed a w := by
  intro fuel
  induction fuel with
  | zero =>
    intro listed a w hc _ hr hy hS H
    refine ⟨fun h => (by rw [h] at hr; cases hr), fun j hj => ?_⟩
    by_cases hji : j = i
    · subst hji; exact hy.wpOp hi hS ⟨.inr hS, H⟩
    · have := ready_mono hj hji
      rw [H.1] at this
      cases this
  | succ fuel ih =>
    intro listed a w hc hfree hr hy hS H
    refine ⟨fun h => (by rw [h] at hr; cases hr), fun j hj => ?_⟩
    by_cases hji : j = i
    · subst hji; exact hy.wpOp hi hS ⟨.inr hS, H⟩
    · have h1 := H.2 j (ready_mono hj hji)
      obtain ⟨hjun, oj, hoj, hall⟩ := mem_ready.1 hj
      have hun := unlisted_of (mem_ready.1 hr).1
      have hjf : j ≠ f := by
        rintro rfl
        rw [reaches_listed hc d j oj hoj hall hre] at hun; cases hun
      have hnot : ∀ e ∈ oj.after, Region.binds md e = true → e.on ≠ i := fun e he hb heq => by
        have h1 := hall e he hb
        rw [heq, hun] at h1; cases h1
      have h2 := wpOp_putIf hoj (hfree j oj hoj hji hjun hnot) (fun cs b => hsel i oi cs b hi) (fun cs b => hsel j oj cs b hoj) hQ hy h1
      have hfree' : ∀ k ok, ops[k]? = some ok → k ≠ i → (listed.setIfInBounds j true).getD k true = false →
          (∀ e ∈ ok.after, Region.binds md e = true → e.on ≠ i) → oi.apart ops ok = true := fun k ok hk hki hun hno => by
        refine hfree k ok hk hki ?_ hno
        by_cases hjk : j = k
        · subst hjk; exact hjun
        · rw [getD_set_ne true hjk] at hun; exact hun
      refine wpOp_mono (fun a' w' h3 => ⟨h3.2.1, ih (listed.setIfInBounds j true) a' w' (closed_set hc hj) hfree' (ready_mono hr (Ne.symm hji)) h3.1 (h3.2.1.resolve_left hjf) ?_⟩) h2
      rw [Array.setIfInBounds_comm _ _ hji]
      exact h3.2.2
end
section
attribute [local semireducible] At AtR AtG Run
variable {P : Program} {f : Fm} {n : Nat} {R : Ending → World → Prop} {k : List Item} {env : Env} {w : World} {S : World → Prop} {ops : Array Oper} {z : Nat}
/-- As 'AtH', with the operation z behind which S need not hold. -/
def AtL (P : Program) (f : Fm) (n : Nat) (R : Ending → World → Prop) (ops : Array Oper) (S : World → Prop) (z : Nat) (k : List Item) (fuel : Nat) (listed : Array Bool) (env : Env) (w : World) : Prop :=
  wpAnyL P .any ops (AtQ P f n R k) S z fuel listed (mkF f n env) w
theorem AtL_draw {id : Nat} (S : World → Prop) (z : Nat) (hm : P.follows .mixedOrders = true) (h : AtL P f n R ops S z k ops.size (Array.replicate ops.size false) env w.drew) (h0 : f.round = none := by rfl) :
    At P f n R (.code (.region id ops true) :: k) env w :=
  At_wp (wp_region_any hm (wpAny_of_L _ _ _ _ h)) h0
def canTakeL (ops : Array Oper) (z : Nat) (listed : Array Bool) (i : Nat) : Bool := canTake ops listed i && closedB .any ops listed && reaches .any ops ops.size z i
theorem AtL_take {fuel : Nat} {listed : Array Bool} (i : Nat) {o : Oper} {v : Value} (hi : ops[i]? = some o) (hc : canTakeL ops z listed i = true) (hg : gsays ops n env o true)
    (hr : ∀ w, S w → Run P n env o w (.ok (.value v) w)) (hS : S w) (h : AtL P f n R ops S z k fuel (listed.setIfInBounds i true) (updo env o.dst v) w) :
    AtL P f n R ops S z k (fuel + 1) listed env w := by
  simp only [canTakeL, canTake, Bool.and_eq_true] at hc
  refine wpAnyL_first hi (Region.noSelect_spec hc.1.1.1.1) (fun _ _ _ hq => absurd hq.1 (by simp)) hc.2 fuel listed _ _ (closed_of hc.1.2) (Region.free_spec hi hc.1.1.1.2) (by simpa using hc.1.1.2) (v := v) (.inl ⟨wanted_gsays hg, fun w hw => ?_⟩) hS ?_
  · rw [eval_mkF]; exact hr w hw
  · rw [mkF_put]; exact h
theorem AtL_bool {fuel : Nat} {listed : Array Bool} (i : Nat) {o : Oper} {p bv : Bool} (hi : ops[i]? = some o) (hc : canTakeL ops z listed i = true) (hg : gsays ops n env o true)
    (hr : ∀ w, S w → Run P n env o w (.ok (.value (.bool p)) w)) (hp : p = bv) (hS : S w) (h : AtL P f n R ops S z k fuel (listed.setIfInBounds i true) (updo env o.dst (.bool bv)) w) :
    AtL P f n R ops S z k (fuel + 1) listed env w := by
  subst hp; exact AtL_take i hi hc hg hr hS h
theorem AtL_no {fuel : Nat} {listed : Array Bool} (i : Nat) {o : Oper} (hi : ops[i]? = some o) (hc : canTakeL ops z listed i = true) (hg : gsays ops n env o false)
    (hS : S w) (h : AtL P f n R ops S z k fuel (listed.setIfInBounds i true) (updo env o.dst undef) w) :
    AtL P f n R ops S z k (fuel + 1) listed env w := by
  simp only [canTakeL, canTake, Bool.and_eq_true] at hc
  refine wpAnyL_first hi (Region.noSelect_spec hc.1.1.1.1) (fun _ _ _ hq => absurd hq.1 (by simp)) hc.2 fuel listed _ _ (closed_of hc.1.2) (Region.free_spec hi hc.1.1.1.2) (by simpa using hc.1.1.2) (v := undef) (.inr ⟨wanted_gsays hg, rfl⟩) hS ?_
  rw [mkF_put]; exact h
theorem AtL_done {fuel : Nat} {listed : Array Bool} (hr : (Region.ready .any ops listed).isEmpty = true) (h : At P f n R k env w) : AtL P f n R ops S z k fuel listed env w := by
  have h0 : Region.ready .any ops listed = [] := by simpa using hr
  have hq : AtQ P f n R k .normal (mkF f n env) w := ⟨rfl, env, rfl, h⟩
  cases fuel with
  | zero => exact ⟨h0, hq⟩
  | succ fuel => exact ⟨fun _ => hq, by rw [h0]; simp⟩
theorem AtL_op {fuel : Nat} {listed : Array Bool} (i : Nat) (hr : Region.ready .any ops listed = [i])
    (h : wpOp P ops (AtQ P f n R k) i (fun a' w' => (i = z ∨ S w') ∧ wpAnyL P .any ops (AtQ P f n R k) S z fuel (listed.setIfInBounds i true) a' w') (mkF f n env) w) : AtL P f n R ops S z k (fuel + 1) listed env w :=
  ⟨(fun h0 => by rw [hr] at h0; cases h0), fun j hj => by
    rw [hr] at hj
    have : j = i := by simpa using hj
    subst this; exact h⟩
theorem L_val {fuel : Nat} {listed : Array Bool} (i : Nat) {o : Oper} {T : Value → World → Prop} (hi : ops[i]? = some o) (hr : Region.ready .any ops listed = [i]) (hg : gsays ops n env o true)
    (h : ∃ v w', Run P n env o w (.ok (.value v) w') ∧ T v w') (hk : ∀ v w', T v w' → (i = z ∨ S w') ∧ AtL P f n R ops S z k fuel (listed.setIfInBounds i true) (updo env o.dst v) w') : AtL P f n R ops S z k (fuel + 1) listed env w := by
  obtain ⟨v, w', hrun, hq⟩ := h
  refine AtL_op i hr ?_
  unfold wpOp
  simp only [hi]
  rw [if_pos (wanted_gsays hg)]
  refine .inl ?_
  unfold Run at hrun
  unfold Oper.wp
  rw [eval_mkF, hrun]
  simp only [Oper.upon, mkF_put]
  exact hk v w' hq
theorem L_skip {fuel : Nat} {listed : Array Bool} (i : Nat) {o : Oper} {T : World → Prop} (hi : ops[i]? = some o) (hr : Region.ready .any ops listed = [i]) (hg : gsays ops n env o true)
    (h : ∃ w', Run P n env o w (.ok .skip w') ∧ T w') (hk : ∀ w', T w' → (i = z ∨ S w') ∧ AtL P f n R ops S z k fuel (listed.setIfInBounds i true) (updo env o.dst undef) w') : AtL P f n R ops S z k (fuel + 1) listed env w := by
  obtain ⟨w', hrun, hq⟩ := h
  refine AtL_op i hr ?_
  unfold wpOp
  simp only [hi]
  rw [if_pos (wanted_gsays hg)]
  refine .inl ?_
  unfold Run at hrun
  unfold Oper.wp
  rw [eval_mkF, hrun]
  simp only [Oper.upon, mkF_put]
  exact hk w' hq
theorem AtL_call {fuel : Nat} {listed : Array Bool} (i : Nat) {o : Oper} {gf : FuncId} {args : Array Value} {w' : World} {T : Ending → World → Prop} (hi : ops[i]? = some o) (hr : Region.ready .any ops listed = [i]) (hg : gsays ops n env o true)
    (hrun : Run P n env o w (.ok (.enter gf args) w')) (hc : Calls P gf args w' T)
    (h : ∀ e w'', T e w'' → ∃ v, e = .returned v ∧ (i = z ∨ S w'') ∧ AtL P f n R ops S z k fuel (listed.setIfInBounds i true) (updo env o.dst v) w'') : AtL P f n R ops S z k (fuel + 1) listed env w := by
  refine AtL_op i hr ?_
  unfold wpOp
  simp only [hi]
  rw [if_pos (wanted_gsays hg)]
  refine .inl ?_
  unfold Run at hrun
  unfold Oper.wp
  rw [eval_mkF, hrun]
  simp only [Oper.upon]
  refine hc.mono fun e w'' hq => ?_
  obtain ⟨v, rfl, hS, h'⟩ := h e w'' hq
  simp only [mkF_put]
  exact ⟨hS, h'⟩
theorem r_box {dst : Option Tmp} {T : TypeId} {x : Operand} {ty : TypeId} {pos : String} {aft : Array Edge} {g : Option (Nat × Bool)} {v : Value} (hx : ev n env x = v) :
    ∃ u w', Run P n env ⟨dst, .box T x, ty, pos, aft, g⟩ w (.ok (.value u) w') ∧ ∃ b, u = .pointer (some ⟨b, 0, none⟩) ∧ b = w.heap.size ∧ Eff w w' b (.cells v.cells T (0, 0)) := by
  refine ⟨.pointer (some ⟨w.heap.size, 0, none⟩), { w with heap := w.heap.push (.cells v.cells T (0, 0)) }, ?_, _, rfl, rfl, eff_push w _⟩
  unfold Run; simp [execOp, Instr.box, newVar, newRow, hx]
end
attribute [irreducible] AtL
end Go.Kx
