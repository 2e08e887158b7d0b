/- A region that draws its order, where an operation that lays or turns something, and a call, may come up: both orders. Own work; nothing of a program is named here. -/
import Derived.Test.YtgobmphkakmdmaaDoorKq
namespace Go.Kx
open Go
section
attribute [local semireducible] At AtR AtG Run AtH
variable {P : Program} {f : Fm} {n : Nat} {R : Ending → World → Prop} {k : List Item} {env : Env} {w : World} {S : World → Prop} {ops : Array Oper}
theorem AtH_pairX {fuel : Nat} {listed : Array Bool} (i j : Nat) {o u : Oper} {gf : FuncId} {args : Array Value} {w' : World} {Q : Ending → World → Prop} {Q1 : Value → World → Prop} (hi : ops[i]? = some o) (hj : ops[j]? = some u)
    (hr : Region.ready .any ops listed = [i, j] ∨ Region.ready .any ops listed = [j, i])
    (gi : gsays ops n env o true) (gj : gsays ops n env u true) (hrun : ∃ v w1, Run P n env o w (.ok (.value v) w1) ∧ Q1 v w1) (hcall : Run P n env u w (.ok (.enter gf args) w')) (hc : Calls P gf args w' Q)
    (k1 : ∀ v w1, Q1 v w1 → S w1 ∧ AtH P f n R ops S k fuel (listed.setIfInBounds i true) (updo env o.dst v) w1)
    (k2 : ∀ e w'', Q e w'' → ∃ v, e = .returned v ∧ S w'' ∧ AtH P f n R ops S k fuel (listed.setIfInBounds j true) (updo env u.dst v) w'') :
    AtH P f n R ops S k (fuel + 1) listed env w := by
  obtain ⟨v, w1, r1, q1⟩ := hrun
  obtain ⟨s1, a1⟩ := k1 v w1 q1
  have hall : ∀ l, l ∈ [i, j] → wpOp P ops (AtQ P f n R k) l (fun a' w' => S w' ∧ wpAnyH P .any ops (AtQ P f n R k) S fuel (listed.setIfInBounds l true) a' w') (mkF f n env) w := by
    intro l hl
    rcases List.mem_cons.1 hl with rfl | hl
    · exact wpOp_val hi gi r1 s1 a1
    · obtain rfl : l = j := by simpa using hl
      exact wpOp_call hj gj hcall hc k2
  rcases hr with hr | hr
  · exact wpAnyH_all hr (by simp) hall
  · exact wpAnyH_all hr (by simp) fun l hl => hall l (by simpa [or_comm] using hl)
end
theorem upd_comm (env : Env) {i j : Nat} (h : i ≠ j) (x y : Value) : upd (upd env i x) j y = upd (upd env j y) i x := by
  funext k
  unfold upd
  rcases hi : Nat.beq k i with _ | _ <;> rcases hj : Nat.beq k j with _ | _ <;> try rfl
  exact absurd ((Nat.eq_of_beq_eq_true hi).symm.trans (Nat.eq_of_beq_eq_true hj)) h
/-- An allocation. -/
theorem r_alloc {P : Program} {n : Nat} {env : Env} {w : World} {dst : Option Tmp} {ty : TypeId} {pos : String} {aft : Array Edge} {g : Option (Nat × Bool)} {T : TypeId} {z : Value} [TZ P T z] :
    ∃ v w', Run P n env ⟨dst, .alloc T, ty, pos, aft, g⟩ w (.ok (.value v) w') ∧ ∃ b, v = .pointer (some ⟨b, 0, none⟩) ∧ b = w.heap.size ∧ Eff w w' b (.cells z.cells T (0, 0)) :=
  ⟨_, { w with heap := w.heap.push (.cells z.cells T (0, 0)) }, (by unfold Run; simp [execOp, Instr.alloc, run_zeroValue, newVar, newRow]), _, rfl, rfl, eff_push w _⟩
end Go.Kx
