/- The law MtreeTurns holds: for every input the call returns true, and each argument reads afterwards as it did. No condition. -/
import Derived.Test.YtfngacepjcdlnaaDoorRows
import Derived.Test.YtfngacepjcdlnaaDoorCards
import Derived.Test.YtfngacepjcdlnaaDoorTie
import Derived.Test.YtfngacepjcdlnaaDoorQLd
import Derived.SevenTiedAt
import Derived.Test.YtfngacepjcdlnaaDoorQOa
import Derived.Test.YtfngacepjcdlnaaDoorQKb
import Derived.ProofKit
import Derived.OpenShut
import Derived.ShutString
import Derived.ChangeOld
import Derived.Below
namespace Go.Proofs.YtfngacepjcdlnaaDoor.mtreeTurns
open Go Go.Kx Go.ChangeShapes Go.WideShapes Go.ChangeAt Go.RowKit
open Go.ChangeMaps (open_string shut_string)
set_option linter.unusedVariables false

theorem laidOut : laidOutB Tryd.prog = true := by kernel_rfl

set_option maxRecDepth 100000 in
theorem lifted (os : Os) (started : os.Started) (H : Type) (enc : TypeId × Value → H) :
    ReturnsInHanded {} Tryd.checked os 15 .any (fun w args => (Rows.mtreeTurnsSpec.pre enc Tryd.prog Tryd.f15 [] false w args ∧ laidMetH Tryd.prog laid1 w) ∧ sizedMet enc Tryd.prog Tryd.f15 (OpenSpec.ofChange Rows.mtreeTurnsSpec) false w args) (Rows.mtreeTurnsSpec.post enc Tryd.prog Tryd.f15 false true false false) := by
  refine row_of_calls #[.int .i64 0, .slice none 0 0, .slice none 0 0] started (by kernel_rfl) Tryd.func15 (by kernel_rfl) (by kernel_rfl) (by kernel_rfl) (World.shaped_of_ZipB (by kernel_rfl) (by kernel_rfl)) ?_
  intro W base args ds gs before hC hval0 hW
  have hval : ∀ (j : Nat) t v, Tryd.f15.params[j]? = some t → args[j]? = some v → Value.okWide Tryd.prog W .any base t v := hval0
  have hW' := hW
  obtain ⟨p, q, hA0, hV, rfl, hfz, hnd⟩ := hW
  have hA : DataW.TrodAll enc Tryd.prog W 0 (fun _ => true) true Tryd.f15.params.toList args.toList ds p := hA0
  rw [Tryd.params15] at hA hval
  obtain ⟨v0, vs0, d0, ds0, p0, q0, hargs, rfl, rfl, h0, r0⟩ := trodAll_cons hA
  obtain ⟨v1, vs1, d1, ds1, p1, q1, rfl, rfl, rfl, h1, r1⟩ := trodAll_cons r0
  obtain ⟨v2, vs2, d2, ds2, p2, q2, rfl, rfl, rfl, h2, r2⟩ := trodAll_cons r1
  obtain ⟨rfl, rfl, rfl⟩ := trodAll_nil r2
  obtain rfl : args = #[v0, v1, v2] := by cases args; simp_all
  obtain ⟨rfl, rfl⟩ := trodVars_none hV
  have k0 := h0
  have lt0 : ∀ x ∈ p0, x.block < W.heap.size := by obtain ⟨m, hm⟩ := k0; exact DataW.trod_lt m _ _ _ hm
  have k1 := h1
  have lt1 : ∀ x ∈ p1, x.block < W.heap.size := by obtain ⟨m, hm⟩ := k1; exact DataW.trod_lt m _ _ _ hm
  have k2 := h2
  have lt2 : ∀ x ∈ p2, x.block < W.heap.size := by obtain ⟨m, hm⟩ := k2; exact DataW.trod_lt m _ _ _ hm
  obtain ⟨a0, rfl, rfl, rfl, w0⟩ := open_int Tryd.underlying3 (hval 0 3 v0 rfl rfl) h0
  -- OPEN 1: []turnkeylaw16.Act
  obtain ⟨a1, len1, cap1, rfl⟩ := okWide_slice Tryd.underlying101 (hval 1 101 v1 rfl rfl)
  obtain ⟨z1, w1⟩ := in_actsT Tryd.underlying101 Tryd.underlying104 (by kernel_rfl) rfl rfl rfl Tryd.underlying3 (by kernel_rfl) Tryd.underlying3 (by kernel_rfl) Tryd.underlying5 (by kernel_rfl) (hval 1 101 _ rfl rfl) h1
  -- OPEN 2: []turnkeylaw16.Act
  obtain ⟨a2, len2, cap2, rfl⟩ := okWide_slice Tryd.underlying101 (hval 2 101 v2 rfl rfl)
  obtain ⟨z2, w2⟩ := in_actsT Tryd.underlying101 Tryd.underlying104 (by kernel_rfl) rfl rfl rfl Tryd.underlying3 (by kernel_rfl) Tryd.underlying3 (by kernel_rfl) Tryd.underlying5 (by kernel_rfl) (hval 2 101 _ rfl rfl) h2
  clear hA0 hval0
  refine (mtreeTurns_in W hC a0 w0 a1 len1 cap1 z1 w1 a2 len2 cap2 z2 w2).mono fun e W' ⟨he, bel⟩ => ?_
  subst he
  exact ⟨_, rfl, _, _, _, [], _, [], hW', trodAll_mk1 (shut_bool Tryd.underlying4 _), (trodAll_cons_mk (Below.trod laidOut (by kernel_rfl) (of_decide_eq_true (by kernel_rfl)) k0 bel lt0) (trodAll_cons_mk (Below.trod laidOut (by kernel_rfl) (of_decide_eq_true (by kernel_rfl)) k1 bel lt1) (trodAll_cons_mk (Below.trod laidOut (by kernel_rfl) (of_decide_eq_true (by kernel_rfl)) k2 bel lt2) trodAll_mk0))), rfl, bel.frame _, fun h => by cases h⟩

theorem over : Rows.mtreeTurnsRow.holds Tryd.pinned (OpenSpec.ofChange Rows.mtreeTurnsSpec) :=
  OpenClaim.holds_of_wide 15 Tryd.f15 rfl rfl rfl rfl rfl rfl rfl ⟨rfl, rfl, rfl, rfl, rfl⟩ rfl rfl rfl rfl rfl (by kernel_rfl) Tryd.func15 (by kernel_rfl)
    (of_decide_eq_true (by kernel_rfl)) (by unfold Func.isWrapper; rw [if_neg (by decide +kernel)]; exact ⟨rfl, rfl⟩)
    (fun os started H enc _ => lifted os started H enc)

/-- The statement: the tied card. -/
theorem proved : Rows.MtreeTurnsCardSaid :=
  Claim7.holds_tied_plain_at .later [] [.data] true (true, "4864b4e363d7f3fe361121a5fbfaf0756e33563c6fb8eaa67706aee317a513a7") false
    over (fun _ h => by cases h) (by kernel_rfl) (fun _ h => by cases h) mtreeTurns_row_tie rfl ⟨rfl, rfl⟩ (by kernel_rfl) rfl
    (fun f fn hf hfn => by
      obtain rfl : f = 15 := Option.some.inj ((show Tryd.prog.funcNamed "turnkey/turnkeylaw16.MtreeTurns" = some 15 by kernel_rfl).symm.trans hf) |>.symm
      obtain rfl : fn = Tryd.f15 := (Option.some.inj (Tryd.func15.symm.trans hfn)).symm
      exact ⟨by kernel_rfl, fun j t ht => by
        rw [Tryd.params15] at ht
        have hm : t ∈ [3, 101, 101] := by simpa using Array.mem_of_getElem? ht
        have hall : ([3, 101, 101].all fun u => !Tryd.prog.wantsStandIn u) = true := by kernel_rfl
        exact (show Tryd.prog.wantsStandIn t = false by simpa using List.all_eq_true.1 hall t hm)⟩)
    (by kernel_rfl)
#print axioms proved
end Go.Proofs.YtfngacepjcdlnaaDoor.mtreeTurns
