/- A region that draws its order: some operations that come up in any order, each told once. Own work; nothing of a program is named here. -/
import Derived.Test.YtgobmphkakmdmaaDoorKs
import Derived.Test.YtgobmphkakmdmaaDoorKz
set_option linter.unusedVariables false
namespace Go.Kx
open Go
section
attribute [local semireducible] At AtR AtG Run AtH
variable {P : Program} {f : Fm} {n : Nat} {R : Ending → World → Prop} {k : List Item} {env : Env} {w : World} {S : World → Prop} {ops : Array Oper}
/-- The operation i comes up now. -/
def OpU (P : Program) (f : Fm) (n : Nat) (R : Ending → World → Prop) (ops : Array Oper) (S : World → Prop) (k : List Item) (fuel : Nat) (listed : Array Bool) (env : Env) (w : World) (i : Nat) : Prop :=
  wpOp P ops (AtQ P f n R k) i (fun a' w' => S w' ∧ wpAnyH P .any ops (AtQ P f n R k) S fuel (listed.setIfInBounds i true) a' w') (mkF f n env) w
/-- What an operation does, told of environments and worlds. -/
def Doth (P : Program) (f : Fm) (n : Nat) (R : Ending → World → Prop) (ops : Array Oper) (S : World → Prop) (k : List Item) (i : Nat) (I J : Env → World → Prop) : Prop :=
  ∀ (fuel : Nat) (listed : Array Bool) (env : Env) (w : World), I env w → (∀ env' w', J env' w' → S w' ∧ AtH P f n R ops S k fuel (listed.setIfInBounds i true) env' w') → OpU P f n R ops S k fuel listed env w i
theorem Doth.val {i : Nat} {o : Oper} {I J : Env → World → Prop} (hi : ops[i]? = some o) (gi : ∀ env w, I env w → gsays ops n env o true) (h : ∀ env w, I env w → ∃ v w1, Run P n env o w (.ok (.value v) w1) ∧ J (updo env o.dst v) w1) : Doth P f n R ops S k i I J := fun fuel listed env w hI hk => by
  obtain ⟨v, w1, r1, j1⟩ := h env w hI
  obtain ⟨s1, a1⟩ := hk _ _ j1
  exact wpOp_val hi (gi env w hI) r1 s1 a1
theorem Doth.skip {i : Nat} {o : Oper} {I J : Env → World → Prop} (hi : ops[i]? = some o) (gi : ∀ env w, I env w → gsays ops n env o true) (h : ∀ env w, I env w → ∃ w1, Run P n env o w (.ok .skip w1) ∧ J (updo env o.dst undef) w1) : Doth P f n R ops S k i I J := fun fuel listed env w hI hk => by
  obtain ⟨w1, r1, j1⟩ := h env w hI
  obtain ⟨s1, a1⟩ := hk _ _ j1
  unfold OpU wpOp
  simp only [hi]
  rw [if_pos (wanted_gsays (gi env w hI))]
  refine .inl ?_
  unfold Run at r1
  unfold Oper.wp
  rw [eval_mkF, r1]
  simp only [Oper.upon, mkF_put]
  exact ⟨s1, a1⟩
theorem Doth.call {i : Nat} {o : Oper} {I J : Env → World → Prop} (hi : ops[i]? = some o) (gi : ∀ env w, I env w → gsays ops n env o true)
    (h : ∀ env w, I env w → ∃ gf args Q, Run P n env o w (.ok (.enter gf args) w) ∧ Calls P gf args w Q ∧ ∀ e w'', Q e w'' → ∃ v, e = .returned v ∧ J (updo env o.dst v) w'') : Doth P f n R ops S k i I J := fun fuel listed env w hI hk => by
  obtain ⟨gf, args, Q, r1, hc, hq⟩ := h env w hI
  refine wpOp_call hi (gi env w hI) r1 hc fun e w'' hh => ?_
  obtain ⟨v, h1, h3⟩ := hq e w'' hh
  obtain ⟨h4, h5⟩ := hk _ _ h3
  exact ⟨v, h1, h4, h5⟩
/-- From here the operations of T come up, in whatever order, and nothing else. -/
def anyOk (ops : Array Oper) (T : List Nat) (L1 : Array Bool) : Nat → Array Bool → List Nat → Bool
  | 0, L, D => L == L1 && T.all D.contains
  | m + 1, L, D => !(Region.ready .any ops L).isEmpty && (Region.ready .any ops L).all fun i => T.contains i && anyOk ops T L1 m (L.setIfInBounds i true) (i :: D)
theorem AtH_any {fuel : Nat} (T : List Nat) {L1 : Array Bool} (I : List Nat → Env → World → Prop) (hS : ∀ D env w, I D env w → S w) (step : ∀ i ∈ T, ∀ D, Doth P f n R ops S k i (I D) (I (i :: D)))
    (h : ∀ D env w, (∀ i ∈ T, i ∈ D) → I D env w → AtH P f n R ops S k fuel L1 env w) :
    ∀ (m : Nat) (L : Array Bool) (D : List Nat) (env : Env) (w : World), anyOk ops T L1 m L D = true → I D env w → AtH P f n R ops S k (fuel + m) L env w
  | 0, L, D, env, w, hok, hI => by
    rw [anyOk, Bool.and_eq_true] at hok
    rw [eq_of_beq hok.1]
    refine h D env w (fun i hi => ?_) hI
    exact List.contains_iff_mem.1 (List.all_eq_true.1 hok.2 i hi)
  | m + 1, L, D, env, w, hok, hI => by
    rw [anyOk, Bool.and_eq_true] at hok
    obtain ⟨h0, h1⟩ := hok
    have hne : Region.ready .any ops L ≠ [] := fun e => by rw [e] at h0; cases h0
    refine wpAnyH_all rfl hne fun i hi => ?_
    have h2 := List.all_eq_true.1 h1 i hi
    rw [Bool.and_eq_true] at h2
    exact step i (List.contains_iff_mem.1 h2.1) D _ _ env w hI fun env' w' hJ => ⟨hS _ _ _ hJ, AtH_any T I hS step h m _ _ env' w' h2.2 hJ⟩
end
attribute [irreducible] Doth OpU
theorem upd_at (env : Env) (d : Nat) (v : Value) : upd env d v d = v := by unfold upd; simp
theorem upd_off (env : Env) {d i : Nat} (v : Value) (h : i ≠ d) : upd env d v i = env i := by
  unfold upd
  cases hb : Nat.beq i d with
  | true => exact absurd (Nat.eq_of_beq_eq_true hb) h
  | false => rfl
theorem ev_tmp {n : Nat} {env : Env} {t : Nat} {v : Value} (h : t < n) (e : env t = v) : ev n env (.tmp t) = v := by
  show (bif Nat.blt t n then env t else undef) = v
  rw [show Nat.blt t n = true from Nat.ble_eq_true_of_le h]; exact e
end Go.Kx
