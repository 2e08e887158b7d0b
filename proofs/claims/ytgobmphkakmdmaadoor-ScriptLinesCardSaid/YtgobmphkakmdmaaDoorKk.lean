/- A region that draws its order, where two operations may come up: both orders. Own work; nothing of a program is named here. -/
import Derived.Test.YtgobmphkakmdmaaDoorKd
namespace Go.Kx
open Go
section
attribute [local semireducible] At AtR AtG Run AtH
variable {P : Program} {f : Fm} {n : Nat} {R : Ending → World → Prop} {k : List Item} {env : Env} {w : World} {S : World → Prop} {ops : Array Oper}
theorem wpOp_val {fuel : Nat} {listed : Array Bool} {i : Nat} {o : Oper} {v : Value} {w' : World} (hi : ops[i]? = some o) (hg : gsays ops n env o true)
    (hrun : Run P n env o w (.ok (.value v) w')) (hS : S w') (h : AtH P f n R ops S k fuel (listed.setIfInBounds i true) (updo env o.dst v) w') :
    wpOp P ops (AtQ P f n R k) i (fun a' w' => S w' ∧ wpAnyH P .any ops (AtQ P f n R k) S fuel (listed.setIfInBounds i true) a' w') (mkF f n env) w := by
  unfold wpOp
  simp only [hi]
  rw [if_pos (wanted_gsays hg)]
  refine .inl ?_
  unfold Run at hrun
  unfold Oper.wp
  rw [eval_mkF, hrun]
  simp only [Oper.upon, mkF_put]
  exact ⟨hS, h⟩
theorem AtH_pair {fuel : Nat} {listed : Array Bool} (i j : Nat) {o u : Oper} (hi : ops[i]? = some o) (hj : ops[j]? = some u) (hr : Region.ready .any ops listed = [i, j]) (gi : gsays ops n env o true) (gj : gsays ops n env u true)
    (h1 : ∃ v w', Run P n env o w (.ok (.value v) w') ∧ S w' ∧ AtH P f n R ops S k fuel (listed.setIfInBounds i true) (updo env o.dst v) w')
    (h2 : ∃ v w', Run P n env u w (.ok (.value v) w') ∧ S w' ∧ AtH P f n R ops S k fuel (listed.setIfInBounds j true) (updo env u.dst v) w') :
    AtH P f n R ops S k (fuel + 1) listed env w :=
  wpAnyH_all hr (by simp) (fun l hl => by
    rcases List.mem_cons.1 hl with rfl | hl
    · obtain ⟨v, w', a, b, c⟩ := h1
      exact wpOp_val hi gi a b c
    · obtain rfl : l = j := by simpa using hl
      obtain ⟨v, w', a, b, c⟩ := h2
      exact wpOp_val hj gj a b c)
theorem AtH_pairQ {fuel : Nat} {listed : Array Bool} (i j : Nat) {o u : Oper} {Q1 Q2 : Value → World → Prop} (hi : ops[i]? = some o) (hj : ops[j]? = some u) (hr : Region.ready .any ops listed = [i, j]) (gi : gsays ops n env o true) (gj : gsays ops n env u true)
    (h1 : ∃ v w', Run P n env o w (.ok (.value v) w') ∧ Q1 v w') (h2 : ∃ v w', Run P n env u w (.ok (.value v) w') ∧ Q2 v w')
    (k1 : ∀ v w', Q1 v w' → S w' ∧ AtH P f n R ops S k fuel (listed.setIfInBounds i true) (updo env o.dst v) w')
    (k2 : ∀ v w', Q2 v w' → S w' ∧ AtH P f n R ops S k fuel (listed.setIfInBounds j true) (updo env u.dst v) w') :
    AtH P f n R ops S k (fuel + 1) listed env w := by
  obtain ⟨v1, w1, r1, q1⟩ := h1
  obtain ⟨v2, w2, r2, q2⟩ := h2
  exact AtH_pair i j hi hj hr gi gj ⟨v1, w1, r1, k1 _ _ q1⟩ ⟨v2, w2, r2, k2 _ _ q2⟩
end
end Go.Kx
