/-
  No cell of these rows narrows 'for every input' (looked for: loops, veiled, ifaces, maps, wideKeys, modest, calm, conditions, laid).
  DERIVED. THE GIVEN ROWS OF THIS SEAT. 6 by the template 'for every input the law returns true; each argument reads behind the call as it read before'; 0 by the template 'total and deterministic' (their statements: YtogfkmejgjodaaaTotals.lean).
  GIVEN WITH THE SEED: the statements are not yours to turn. If you find one false, say at which input.
  Laid BY PROGRAM, IN A SANDBOX (cutbox-rows.mjs): the forced cells as the released guide's own fill.sh prints them over the translation 30cbbb7f72bac154… (all of the seat's roots in one cut). By AI agents, Wed Nov 11 2026. No macro, syntax, notation, axiom, sorry.
-/
import Derived.Test.YtogfkmejgjodaaaChecked
import GoSem.Claim
import GoSem.ClaimJoined
import GoSem.ClaimMapViews
import Derived.JoinedTies
import Derived.KernelRfl
namespace Go.Proofs.Ytogfkmejgjodaaa
/- THE CELL 'sum', in the pinned program and in every row, IS THE sha256 OF THE DUMP (.gsa) THAT YtogfkmejgjodaaaProg.lean LOADS. Nothing in Lean hashes anything: it is a label: what it is worth is what the hold of that sum in a sandbox is worth. -/
noncomputable def Try.pinned : Pinned := { name := "ytogfkmejgjodaaa", sum := "30cbbb7f72bac1541544825e81df6c1b10487ef3a50c6d1bc697b626a663090d", checked := Try.checked }
namespace Rows
def none {H : Type} : Left H := { results := [], args := [] }

/-- 'turnkeylaw24.PolicySets': WHATEVER THE INPUT: true; the input reads as it did. -/
def policySetsSpec : ChangeSpec := { name := "policySets", fn := fun _ => fun
  | [d1, d2, d3] => { results := [.lit (.bool true)], args := [d1, d2, d3] }
  | _ => none }
def policySetsRow : OpenClaim := { program := "ytogfkmejgjodaaa", sum := "30cbbb7f72bac1541544825e81df6c1b10487ef3a50c6d1bc697b626a663090d", func := "turnkey/turnkeylaw24.PolicySets", spec := "policySets", apart := false }
def PolicySetsSaid : Prop := policySetsRow.holds Try.pinned (OpenSpec.ofChange policySetsSpec)

/-- ITS FALSE NEIGHBOUR: 'it returns false'. Refute it at one input. -/
def policySetsWrong : ChangeSpec := { name := "policySets", fn := fun _ => fun
  | [d1, d2, d3] => { results := [.lit (.bool false)], args := [d1, d2, d3] }
  | _ => none }
def PolicySetsWrongFalsely : Prop := policySetsRow.holds Try.pinned (OpenSpec.ofChange policySetsWrong)

/-- 'turnkeylaw24.PolicyFits': WHATEVER THE INPUT: true; the input reads as it did. -/
def policyFitsSpec : ChangeSpec := { name := "policyFits", fn := fun _ => fun
  | [d1, d2] => { results := [.lit (.bool true)], args := [d1, d2] }
  | _ => none }
def policyFitsRow : OpenClaim := { program := "ytogfkmejgjodaaa", sum := "30cbbb7f72bac1541544825e81df6c1b10487ef3a50c6d1bc697b626a663090d", func := "turnkey/turnkeylaw24.PolicyFits", spec := "policyFits", apart := false }
def PolicyFitsSaid : Prop := policyFitsRow.holds Try.pinned (OpenSpec.ofChange policyFitsSpec)

/-- ITS FALSE NEIGHBOUR: 'it returns false'. Refute it at one input. -/
def policyFitsWrong : ChangeSpec := { name := "policyFits", fn := fun _ => fun
  | [d1, d2] => { results := [.lit (.bool false)], args := [d1, d2] }
  | _ => none }
def PolicyFitsWrongFalsely : Prop := policyFitsRow.holds Try.pinned (OpenSpec.ofChange policyFitsWrong)

/-- 'turnkeylaw15.SpaceTakes': WHATEVER THE INPUT: true; the input reads as it did. -/
def spaceTakesSpec : ChangeSpec := { name := "spaceTakes", fn := fun _ => fun
  | [d1, d2] => { results := [.lit (.bool true)], args := [d1, d2] }
  | _ => none }
def spaceTakesRow : OpenClaim := { program := "ytogfkmejgjodaaa", sum := "30cbbb7f72bac1541544825e81df6c1b10487ef3a50c6d1bc697b626a663090d", func := "turnkey/turnkeylaw15.SpaceTakes", spec := "spaceTakes", apart := false }
def SpaceTakesSaid : Prop := spaceTakesRow.holds Try.pinned (OpenSpec.ofChange spaceTakesSpec)

/-- ITS FALSE NEIGHBOUR: 'it returns false'. Refute it at one input. -/
def spaceTakesWrong : ChangeSpec := { name := "spaceTakes", fn := fun _ => fun
  | [d1, d2] => { results := [.lit (.bool false)], args := [d1, d2] }
  | _ => none }
def SpaceTakesWrongFalsely : Prop := spaceTakesRow.holds Try.pinned (OpenSpec.ofChange spaceTakesWrong)

/-- 'turnkeylaw15.SpaceSums': WHATEVER THE INPUT: true; the input reads as it did. -/
def spaceSumsSpec : ChangeSpec := { name := "spaceSums", fn := fun _ => fun
  | [d1, d2] => { results := [.lit (.bool true)], args := [d1, d2] }
  | _ => none }
def spaceSumsRow : OpenClaim := { program := "ytogfkmejgjodaaa", sum := "30cbbb7f72bac1541544825e81df6c1b10487ef3a50c6d1bc697b626a663090d", func := "turnkey/turnkeylaw15.SpaceSums", spec := "spaceSums", apart := false }
def SpaceSumsSaid : Prop := spaceSumsRow.holds Try.pinned (OpenSpec.ofChange spaceSumsSpec)

/-- ITS FALSE NEIGHBOUR: 'it returns false'. Refute it at one input. -/
def spaceSumsWrong : ChangeSpec := { name := "spaceSums", fn := fun _ => fun
  | [d1, d2] => { results := [.lit (.bool false)], args := [d1, d2] }
  | _ => none }
def SpaceSumsWrongFalsely : Prop := spaceSumsRow.holds Try.pinned (OpenSpec.ofChange spaceSumsWrong)

/-- 'turnkeylaw15.SpaceUndo': WHATEVER THE INPUT: true; the input reads as it did. -/
def spaceUndoSpec : ChangeSpec := { name := "spaceUndo", fn := fun _ => fun
  | [d1, d2] => { results := [.lit (.bool true)], args := [d1, d2] }
  | _ => none }
def spaceUndoRow : OpenClaim := { program := "ytogfkmejgjodaaa", sum := "30cbbb7f72bac1541544825e81df6c1b10487ef3a50c6d1bc697b626a663090d", func := "turnkey/turnkeylaw15.SpaceUndo", spec := "spaceUndo", apart := false }
def SpaceUndoSaid : Prop := spaceUndoRow.holds Try.pinned (OpenSpec.ofChange spaceUndoSpec)

/-- ITS FALSE NEIGHBOUR: 'it returns false'. Refute it at one input. -/
def spaceUndoWrong : ChangeSpec := { name := "spaceUndo", fn := fun _ => fun
  | [d1, d2] => { results := [.lit (.bool false)], args := [d1, d2] }
  | _ => none }
def SpaceUndoWrongFalsely : Prop := spaceUndoRow.holds Try.pinned (OpenSpec.ofChange spaceUndoWrong)

/-- 'turnkeylaw15.SpaceActs': WHATEVER THE INPUT: true; the input reads as it did. -/
def spaceActsSpec : ChangeSpec := { name := "spaceActs", fn := fun _ => fun
  | [d1, d2, d3] => { results := [.lit (.bool true)], args := [d1, d2, d3] }
  | _ => none }
def spaceActsRow : OpenClaim := { program := "ytogfkmejgjodaaa", sum := "30cbbb7f72bac1541544825e81df6c1b10487ef3a50c6d1bc697b626a663090d", func := "turnkey/turnkeylaw15.SpaceActs", spec := "spaceActs", apart := false }
def SpaceActsSaid : Prop := spaceActsRow.holds Try.pinned (OpenSpec.ofChange spaceActsSpec)

/-- ITS FALSE NEIGHBOUR: 'it returns false'. Refute it at one input. -/
def spaceActsWrong : ChangeSpec := { name := "spaceActs", fn := fun _ => fun
  | [d1, d2, d3] => { results := [.lit (.bool false)], args := [d1, d2, d3] }
  | _ => none }
def SpaceActsWrongFalsely : Prop := spaceActsRow.holds Try.pinned (OpenSpec.ofChange spaceActsWrong)

/- THE SECOND FORM. 'bulk': how many values and letters a reading holds, each counted each time it is reached (what is shared counts as often as it is met; a slice's spare places count too). A statement '..UptoSaid' is the law's where the arguments, and the package variables that the reading takes, are together of bulk at most 1048576: NARROWER than '..Said'. Prove '..Said' where nothing that the law and all that it calls make is longer than what came in: it says more and counts as full. Else prove '..UptoSaid'. A law counts once. -/
mutual
def uptoBulk {H : Type} : DataW H → Nat
  | .lit (.string bytes) => bytes.length + 1
  | .lit _ => 1
  | .nil => 1
  | .ptr d => uptoBulk d + 1
  | .slice elems spare => uptoBulkAll elems + uptoBulkAll spare + 1
  | .agg parts => uptoBulkAll parts + 1
  | .iface _ d => uptoBulk d + 1
  | .map entries => uptoBulkEntries entries + 1
  | .held _ => 1
def uptoBulkAll {H : Type} : List (DataW H) → Nat
  | [] => 0
  | d :: r => uptoBulk d + uptoBulkAll r
def uptoBulkEntries {H : Type} : List (Lit × DataW H) → Nat
  | [] => 0
  | x :: r => uptoBulkEntry x + uptoBulkEntries r
def uptoBulkEntry {H : Type} : Lit × DataW H → Nat
  | (.string bytes, d) => bytes.length + uptoBulk d + 1
  | (_, d) => uptoBulk d + 1
 end
def uptoSmall : (H : Type) → List (DataW H) → Bool := fun _ ds => decide (uptoBulkAll ds ≤ 1048576)
def OpenSpec.upto (s : _root_.Go.ChangeSpec) : _root_.Go.OpenSpec := { _root_.Go.OpenSpec.ofChange s with cond := some uptoSmall }

/-- 'turnkeylaw24.PolicySets', WHERE WHAT IT READS IS OF BULK AT MOST 1048576: true; the input reads as it did. -/
def policySetsUptoRow : OpenClaim := { program := "ytogfkmejgjodaaa", sum := "30cbbb7f72bac1541544825e81df6c1b10487ef3a50c6d1bc697b626a663090d", func := "turnkey/turnkeylaw24.PolicySets", spec := "policySets", apart := false, narrowed := true }
def PolicySetsUptoSaid : Prop := policySetsUptoRow.holds Try.pinned (OpenSpec.upto policySetsSpec)

/-- 'turnkeylaw24.PolicyFits', WHERE WHAT IT READS IS OF BULK AT MOST 1048576: true; the input reads as it did. -/
def policyFitsUptoRow : OpenClaim := { program := "ytogfkmejgjodaaa", sum := "30cbbb7f72bac1541544825e81df6c1b10487ef3a50c6d1bc697b626a663090d", func := "turnkey/turnkeylaw24.PolicyFits", spec := "policyFits", apart := false, narrowed := true }
def PolicyFitsUptoSaid : Prop := policyFitsUptoRow.holds Try.pinned (OpenSpec.upto policyFitsSpec)

/-- 'turnkeylaw15.SpaceTakes', WHERE WHAT IT READS IS OF BULK AT MOST 1048576: true; the input reads as it did. -/
def spaceTakesUptoRow : OpenClaim := { program := "ytogfkmejgjodaaa", sum := "30cbbb7f72bac1541544825e81df6c1b10487ef3a50c6d1bc697b626a663090d", func := "turnkey/turnkeylaw15.SpaceTakes", spec := "spaceTakes", apart := false, narrowed := true }
def SpaceTakesUptoSaid : Prop := spaceTakesUptoRow.holds Try.pinned (OpenSpec.upto spaceTakesSpec)

/-- 'turnkeylaw15.SpaceSums', WHERE WHAT IT READS IS OF BULK AT MOST 1048576: true; the input reads as it did. -/
def spaceSumsUptoRow : OpenClaim := { program := "ytogfkmejgjodaaa", sum := "30cbbb7f72bac1541544825e81df6c1b10487ef3a50c6d1bc697b626a663090d", func := "turnkey/turnkeylaw15.SpaceSums", spec := "spaceSums", apart := false, narrowed := true }
def SpaceSumsUptoSaid : Prop := spaceSumsUptoRow.holds Try.pinned (OpenSpec.upto spaceSumsSpec)

/-- 'turnkeylaw15.SpaceUndo', WHERE WHAT IT READS IS OF BULK AT MOST 1048576: true; the input reads as it did. -/
def spaceUndoUptoRow : OpenClaim := { program := "ytogfkmejgjodaaa", sum := "30cbbb7f72bac1541544825e81df6c1b10487ef3a50c6d1bc697b626a663090d", func := "turnkey/turnkeylaw15.SpaceUndo", spec := "spaceUndo", apart := false, narrowed := true }
def SpaceUndoUptoSaid : Prop := spaceUndoUptoRow.holds Try.pinned (OpenSpec.upto spaceUndoSpec)

/-- 'turnkeylaw15.SpaceActs', WHERE WHAT IT READS IS OF BULK AT MOST 1048576: true; the input reads as it did. -/
def spaceActsUptoRow : OpenClaim := { program := "ytogfkmejgjodaaa", sum := "30cbbb7f72bac1541544825e81df6c1b10487ef3a50c6d1bc697b626a663090d", func := "turnkey/turnkeylaw15.SpaceActs", spec := "spaceActs", apart := false, narrowed := true }
def SpaceActsUptoSaid : Prop := spaceActsUptoRow.holds Try.pinned (OpenSpec.upto spaceActsSpec)

end Rows
end Go.Proofs.Ytogfkmejgjodaaa
