/- A region that draws its order, where a value and a call may come up: both orders. Own work; nothing of a program is named here. -/
import Derived.Test.YtgobmphkakmdmaaDoorKk
namespace Go.Kx
open Go
section
attribute [local semireducible] At AtR AtG Run AtH
variable {P : Program} {f : Fm} {n : Nat} {R : Ending → World → Prop} {k : List Item} {env : Env} {w : World} {S : World → Prop} {ops : Array Oper}
theorem wpOp_call {fuel : Nat} {listed : Array Bool} {i : Nat} {o : Oper} {gf : FuncId} {args : Array Value} {w' : World} {Q : Ending → World → Prop} (hi : ops[i]? = some o) (hg : gsays ops n env o true)
    (hrun : Run P n env o w (.ok (.enter gf args) w')) (hc : Calls P gf args w' Q)
    (h : ∀ e w'', Q e w'' → ∃ v, e = .returned v ∧ S w'' ∧ AtH P f n R ops S k fuel (listed.setIfInBounds i true) (updo env o.dst v) w'') :
    wpOp P ops (AtQ P f n R k) i (fun a' w' => S w' ∧ wpAnyH P .any ops (AtQ P f n R k) S fuel (listed.setIfInBounds i true) a' w') (mkF f n env) w := by
  unfold wpOp
  simp only [hi]
  rw [if_pos (wanted_gsays hg)]
  refine .inl ?_
  unfold Run at hrun
  unfold Oper.wp
  rw [eval_mkF, hrun]
  simp only [Oper.upon]
  refine hc.mono fun e w'' hq => ?_
  obtain ⟨v, rfl, hS, h'⟩ := h e w'' hq
  simp only [mkF_put]
  exact ⟨hS, h'⟩
theorem AtH_pairC {fuel : Nat} {listed : Array Bool} (i j : Nat) {o u : Oper} {v : Value} {gf : FuncId} {args : Array Value} {w' : World} {Q : Ending → World → Prop} (hi : ops[i]? = some o) (hj : ops[j]? = some u) (hr : Region.ready .any ops listed = [i, j])
    (gi : gsays ops n env o true) (gj : gsays ops n env u true) (hrun : Run P n env o w (.ok (.value v) w)) (hS : S w) (hcall : Run P n env u w (.ok (.enter gf args) w')) (hc : Calls P gf args w' Q)
    (k1 : AtH P f n R ops S k fuel (listed.setIfInBounds i true) (updo env o.dst v) w)
    (k2 : ∀ e w'', Q e w'' → ∃ v, e = .returned v ∧ S w'' ∧ AtH P f n R ops S k fuel (listed.setIfInBounds j true) (updo env u.dst v) w'') :
    AtH P f n R ops S k (fuel + 1) listed env w :=
  wpAnyH_all hr (by simp) (fun l hl => by
    rcases List.mem_cons.1 hl with rfl | hl
    · exact wpOp_val hi gi hrun hS k1
    · obtain rfl : l = j := by simpa using hl
      exact wpOp_call hj gj hcall hc k2)
end
end Go.Kx
