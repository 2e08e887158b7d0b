/-
  NARROWER THAN 'FOR EVERY INPUT', by the rows' own cells (each row's printed sentence says how): PolicyNonces: laid · MtreeSeals: laid · MtreeNames: laid · KeyringFull: laid · KeyringApart: laid · KeyringGone: laid · MtreeOrder: laid · KeyringActs: laid · MtreeTurned: laid · PolicyKeys: laid · MtreeActs: laid · MtreePointers: laid · MtreeTurns: laid.
  DERIVED. THE GIVEN ROWS OF THIS SEAT. 13 by the template 'for every input the law returns true; each argument reads behind the call as it read before'; 0 by the template 'total and deterministic' (their statements: YtfngacepjcdlnaaDoorTotals.lean).
  GIVEN WITH THE SEED: the statements are not yours to turn. If you find one false, say at which input.
  Laid BY PROGRAM, IN A SANDBOX (cutbox-rows.mjs): the forced cells as the released guide's own fill.sh prints them over the translation d8a8a563601232e8… (all of the seat's roots in one cut). By AI agents, Wed Nov 11 2026. No macro, syntax, notation, axiom, sorry.
-/
import Derived.Test.YtfngacepjcdlnaaDoorChecked
import GoSem.Claim
import GoSem.ClaimJoined
import GoSem.ClaimMapViews
import Derived.JoinedTies
import Derived.KernelRfl
namespace Go.Proofs.YtfngacepjcdlnaaDoor
/- THE CELL 'sum', in the pinned program and in every row, IS THE sha256 OF THE DUMP (.gsa) THAT YtfngacepjcdlnaaDoorProg.lean LOADS. Nothing in Lean hashes anything: it is a label: what it is worth is what the hold of that sum in a sandbox is worth. -/
noncomputable def Tryd.pinned : Pinned := { name := "ytfngacepjcdlnaadoor", sum := "d8a8a563601232e8cd923f6a247ffdbe8628b4bf757b0fcdc6b1695a628befda", checked := Tryd.checked }
namespace Rows
def none {H : Type} : Left H := { results := [], args := [] }

/- WHAT THE LISTED PACKAGE-LEVEL VARIABLES READ AS WHEN THE CALL BEGINS. Each datum BY PROGRAM (the guide's laid-datum.mjs) off the statement by which the dump's own 'gosem.cut.vars' lays the variable. In a bare row this is a premise. The card (YtfngacepjcdlnaaDoorCards.lean) ties it to the program's text. -/
def laid_turnkey_sha512_constants {H : Type} : DataW H := .agg [.lit (.int .u64 4794697086780616226), .lit (.int .u64 8158064640168781261), .lit (.int .u64 13096744586834688815), .lit (.int .u64 16840607885511220156), .lit (.int .u64 4131703408338449720), .lit (.int .u64 6480981068601479193), .lit (.int .u64 10538285296894168987), .lit (.int .u64 12329834152419229976), .lit (.int .u64 15566598209576043074), .lit (.int .u64 1334009975649890238), .lit (.int .u64 2608012711638119052), .lit (.int .u64 6128411473006802146), .lit (.int .u64 8268148722764581231), .lit (.int .u64 9286055187155687089), .lit (.int .u64 11230858885718282805), .lit (.int .u64 13951009754708518548), .lit (.int .u64 16472876342353939154), .lit (.int .u64 17275323862435702243), .lit (.int .u64 1135362057144423861), .lit (.int .u64 2597628984639134821), .lit (.int .u64 3308224258029322869), .lit (.int .u64 5365058923640841347), .lit (.int .u64 6679025012923562964), .lit (.int .u64 8573033837759648693), .lit (.int .u64 10970295158949994411), .lit (.int .u64 12119686244451234320), .lit (.int .u64 12683024718118986047), .lit (.int .u64 13788192230050041572), .lit (.int .u64 14330467153632333762), .lit (.int .u64 15395433587784984357), .lit (.int .u64 489312712824947311), .lit (.int .u64 1452737877330783856), .lit (.int .u64 2861767655752347644), .lit (.int .u64 3322285676063803686), .lit (.int .u64 5560940570517711597), .lit (.int .u64 5996557281743188959), .lit (.int .u64 7280758554555802590), .lit (.int .u64 8532644243296465576), .lit (.int .u64 9350256976987008742), .lit (.int .u64 10552545826968843579), .lit (.int .u64 11727347734174303076), .lit (.int .u64 12113106623233404929), .lit (.int .u64 14000437183269869457), .lit (.int .u64 14369950271660146224), .lit (.int .u64 15101387698204529176), .lit (.int .u64 15463397548674623760), .lit (.int .u64 17586052441742319658), .lit (.int .u64 1182934255886127544), .lit (.int .u64 1847814050463011016), .lit (.int .u64 2177327727835720531), .lit (.int .u64 2830643537854262169), .lit (.int .u64 3796741975233480872), .lit (.int .u64 4115178125766777443), .lit (.int .u64 5681478168544905931), .lit (.int .u64 6601373596472566643), .lit (.int .u64 7507060721942968483), .lit (.int .u64 8399075790359081724), .lit (.int .u64 8693463985226723168), .lit (.int .u64 9568029438360202098), .lit (.int .u64 10144078919501101548), .lit (.int .u64 10430055236837252648), .lit (.int .u64 11840083180663258601), .lit (.int .u64 13761210420658862357), .lit (.int .u64 14299343276471374635), .lit (.int .u64 14566680578165727644), .lit (.int .u64 15097957966210449927), .lit (.int .u64 16922976911328602910), .lit (.int .u64 17689382322260857208), .lit (.int .u64 500013540394364858), .lit (.int .u64 748580250866718886), .lit (.int .u64 1242879168328830382), .lit (.int .u64 1977374033974150939), .lit (.int .u64 2944078676154940804), .lit (.int .u64 3659926193048069267), .lit (.int .u64 4368137639120453308), .lit (.int .u64 4836135668995329356), .lit (.int .u64 5532061633213252278), .lit (.int .u64 6448918945643986474), .lit (.int .u64 6902733635092675308), .lit (.int .u64 7801388544844847127)]

/-- 'turnkeylaw24.PolicyNonces': WHATEVER THE INPUT: true; the input reads as it did. -/
def policyNoncesSpec : ChangeSpec := { name := "policyNonces", fn := fun _ => fun
  | [d1, d2] => { results := [.lit (.bool true)], args := [d1, d2] }
  | _ => none }
def policyNoncesRow : OpenClaim := { program := "ytfngacepjcdlnaadoor", sum := "d8a8a563601232e8cd923f6a247ffdbe8628b4bf757b0fcdc6b1695a628befda", func := "turnkey/turnkeylaw24.PolicyNonces", spec := "policyNonces", inPlace := ["internal/bytealg.Compare", "slices.overlaps[*turnkey/keyring.entry]"], unfollowed := true, recurses := true, named := ["turnkey/sha512.constants"], apart := false, laid := [("turnkey/sha512.constants", laid_turnkey_sha512_constants)] }
def PolicyNoncesSaid : Prop := policyNoncesRow.holds Tryd.pinned (OpenSpec.ofChange policyNoncesSpec)

/-- ITS FALSE NEIGHBOUR: 'it returns false'. Refute it at one input. -/
def policyNoncesWrong : ChangeSpec := { name := "policyNonces", fn := fun _ => fun
  | [d1, d2] => { results := [.lit (.bool false)], args := [d1, d2] }
  | _ => none }
def PolicyNoncesWrongFalsely : Prop := policyNoncesRow.holds Tryd.pinned (OpenSpec.ofChange policyNoncesWrong)

/-- 'turnkeylaw16.MtreeSeals': WHATEVER THE INPUT: true; the input reads as it did. -/
def mtreeSealsSpec : ChangeSpec := { name := "mtreeSeals", fn := fun _ => fun
  | [d1, d2, d3] => { results := [.lit (.bool true)], args := [d1, d2, d3] }
  | _ => none }
def mtreeSealsRow : OpenClaim := { program := "ytfngacepjcdlnaadoor", sum := "d8a8a563601232e8cd923f6a247ffdbe8628b4bf757b0fcdc6b1695a628befda", func := "turnkey/turnkeylaw16.MtreeSeals", spec := "mtreeSeals", unfollowed := true, recurses := true, named := ["turnkey/sha512.constants"], apart := false, laid := [("turnkey/sha512.constants", laid_turnkey_sha512_constants)] }
def MtreeSealsSaid : Prop := mtreeSealsRow.holds Tryd.pinned (OpenSpec.ofChange mtreeSealsSpec)

/-- ITS FALSE NEIGHBOUR: 'it returns false'. Refute it at one input. -/
def mtreeSealsWrong : ChangeSpec := { name := "mtreeSeals", fn := fun _ => fun
  | [d1, d2, d3] => { results := [.lit (.bool false)], args := [d1, d2, d3] }
  | _ => none }
def MtreeSealsWrongFalsely : Prop := mtreeSealsRow.holds Tryd.pinned (OpenSpec.ofChange mtreeSealsWrong)

/-- 'turnkeylaw16.MtreeNames': WHATEVER THE INPUT: true; the input reads as it did. -/
def mtreeNamesSpec : ChangeSpec := { name := "mtreeNames", fn := fun _ => fun
  | [d1, d2, d3] => { results := [.lit (.bool true)], args := [d1, d2, d3] }
  | _ => none }
def mtreeNamesRow : OpenClaim := { program := "ytfngacepjcdlnaadoor", sum := "d8a8a563601232e8cd923f6a247ffdbe8628b4bf757b0fcdc6b1695a628befda", func := "turnkey/turnkeylaw16.MtreeNames", spec := "mtreeNames", unfollowed := true, recurses := true, named := ["turnkey/sha512.constants"], apart := false, laid := [("turnkey/sha512.constants", laid_turnkey_sha512_constants)] }
def MtreeNamesSaid : Prop := mtreeNamesRow.holds Tryd.pinned (OpenSpec.ofChange mtreeNamesSpec)

/-- ITS FALSE NEIGHBOUR: 'it returns false'. Refute it at one input. -/
def mtreeNamesWrong : ChangeSpec := { name := "mtreeNames", fn := fun _ => fun
  | [d1, d2, d3] => { results := [.lit (.bool false)], args := [d1, d2, d3] }
  | _ => none }
def MtreeNamesWrongFalsely : Prop := mtreeNamesRow.holds Tryd.pinned (OpenSpec.ofChange mtreeNamesWrong)

/-- 'turnkeylaw23.KeyringFull': WHATEVER THE INPUT: true; the input reads as it did. -/
def keyringFullSpec : ChangeSpec := { name := "keyringFull", fn := fun _ => fun
  | [d] => { results := [.lit (.bool true)], args := [d] }
  | _ => none }
def keyringFullRow : OpenClaim := { program := "ytfngacepjcdlnaadoor", sum := "d8a8a563601232e8cd923f6a247ffdbe8628b4bf757b0fcdc6b1695a628befda", func := "turnkey/turnkeylaw23.KeyringFull", spec := "keyringFull", inPlace := ["internal/bytealg.Compare", "slices.overlaps[*turnkey/keyring.entry]"], unfollowed := true, recurses := true, named := ["turnkey/sha512.constants"], apart := false, laid := [("turnkey/sha512.constants", laid_turnkey_sha512_constants)] }
def KeyringFullSaid : Prop := keyringFullRow.holds Tryd.pinned (OpenSpec.ofChange keyringFullSpec)

/-- ITS FALSE NEIGHBOUR: 'it returns false'. Refute it at one input. -/
def keyringFullWrong : ChangeSpec := { name := "keyringFull", fn := fun _ => fun
  | [d] => { results := [.lit (.bool false)], args := [d] }
  | _ => none }
def KeyringFullWrongFalsely : Prop := keyringFullRow.holds Tryd.pinned (OpenSpec.ofChange keyringFullWrong)

/-- 'turnkeylaw23.KeyringApart': WHATEVER THE INPUT: true; the input reads as it did. -/
def keyringApartSpec : ChangeSpec := { name := "keyringApart", fn := fun _ => fun
  | [d] => { results := [.lit (.bool true)], args := [d] }
  | _ => none }
def keyringApartRow : OpenClaim := { program := "ytfngacepjcdlnaadoor", sum := "d8a8a563601232e8cd923f6a247ffdbe8628b4bf757b0fcdc6b1695a628befda", func := "turnkey/turnkeylaw23.KeyringApart", spec := "keyringApart", inPlace := ["internal/bytealg.Compare", "slices.overlaps[*turnkey/keyring.entry]"], unfollowed := true, recurses := true, named := ["turnkey/sha512.constants"], apart := false, laid := [("turnkey/sha512.constants", laid_turnkey_sha512_constants)] }
def KeyringApartSaid : Prop := keyringApartRow.holds Tryd.pinned (OpenSpec.ofChange keyringApartSpec)

/-- ITS FALSE NEIGHBOUR: 'it returns false'. Refute it at one input. -/
def keyringApartWrong : ChangeSpec := { name := "keyringApart", fn := fun _ => fun
  | [d] => { results := [.lit (.bool false)], args := [d] }
  | _ => none }
def KeyringApartWrongFalsely : Prop := keyringApartRow.holds Tryd.pinned (OpenSpec.ofChange keyringApartWrong)

/-- 'turnkeylaw23.KeyringGone': WHATEVER THE INPUT: true; the input reads as it did. -/
def keyringGoneSpec : ChangeSpec := { name := "keyringGone", fn := fun _ => fun
  | [d1, d2] => { results := [.lit (.bool true)], args := [d1, d2] }
  | _ => none }
def keyringGoneRow : OpenClaim := { program := "ytfngacepjcdlnaadoor", sum := "d8a8a563601232e8cd923f6a247ffdbe8628b4bf757b0fcdc6b1695a628befda", func := "turnkey/turnkeylaw23.KeyringGone", spec := "keyringGone", inPlace := ["internal/bytealg.Compare", "slices.overlaps[*turnkey/keyring.entry]"], unfollowed := true, recurses := true, named := ["turnkey/sha512.constants"], apart := false, laid := [("turnkey/sha512.constants", laid_turnkey_sha512_constants)] }
def KeyringGoneSaid : Prop := keyringGoneRow.holds Tryd.pinned (OpenSpec.ofChange keyringGoneSpec)

/-- ITS FALSE NEIGHBOUR: 'it returns false'. Refute it at one input. -/
def keyringGoneWrong : ChangeSpec := { name := "keyringGone", fn := fun _ => fun
  | [d1, d2] => { results := [.lit (.bool false)], args := [d1, d2] }
  | _ => none }
def KeyringGoneWrongFalsely : Prop := keyringGoneRow.holds Tryd.pinned (OpenSpec.ofChange keyringGoneWrong)

/-- 'turnkeylaw16.MtreeOrder': WHATEVER THE INPUT: true; the input reads as it did. -/
def mtreeOrderSpec : ChangeSpec := { name := "mtreeOrder", fn := fun _ => fun
  | [d1, d2] => { results := [.lit (.bool true)], args := [d1, d2] }
  | _ => none }
def mtreeOrderRow : OpenClaim := { program := "ytfngacepjcdlnaadoor", sum := "d8a8a563601232e8cd923f6a247ffdbe8628b4bf757b0fcdc6b1695a628befda", func := "turnkey/turnkeylaw16.MtreeOrder", spec := "mtreeOrder", unfollowed := true, recurses := true, named := ["turnkey/sha512.constants"], apart := false, laid := [("turnkey/sha512.constants", laid_turnkey_sha512_constants)] }
def MtreeOrderSaid : Prop := mtreeOrderRow.holds Tryd.pinned (OpenSpec.ofChange mtreeOrderSpec)

/-- ITS FALSE NEIGHBOUR: 'it returns false'. Refute it at one input. -/
def mtreeOrderWrong : ChangeSpec := { name := "mtreeOrder", fn := fun _ => fun
  | [d1, d2] => { results := [.lit (.bool false)], args := [d1, d2] }
  | _ => none }
def MtreeOrderWrongFalsely : Prop := mtreeOrderRow.holds Tryd.pinned (OpenSpec.ofChange mtreeOrderWrong)

/-- 'turnkeylaw23.KeyringActs': WHATEVER THE INPUT: true; the input reads as it did. -/
def keyringActsSpec : ChangeSpec := { name := "keyringActs", fn := fun _ => fun
  | [d] => { results := [.lit (.bool true)], args := [d] }
  | _ => none }
def keyringActsRow : OpenClaim := { program := "ytfngacepjcdlnaadoor", sum := "d8a8a563601232e8cd923f6a247ffdbe8628b4bf757b0fcdc6b1695a628befda", func := "turnkey/turnkeylaw23.KeyringActs", spec := "keyringActs", inPlace := ["internal/bytealg.Compare", "slices.overlaps[*turnkey/keyring.entry]"], unfollowed := true, recurses := true, named := ["turnkey/sha512.constants"], apart := false, laid := [("turnkey/sha512.constants", laid_turnkey_sha512_constants)] }
def KeyringActsSaid : Prop := keyringActsRow.holds Tryd.pinned (OpenSpec.ofChange keyringActsSpec)

/-- ITS FALSE NEIGHBOUR: 'it returns false'. Refute it at one input. -/
def keyringActsWrong : ChangeSpec := { name := "keyringActs", fn := fun _ => fun
  | [d] => { results := [.lit (.bool false)], args := [d] }
  | _ => none }
def KeyringActsWrongFalsely : Prop := keyringActsRow.holds Tryd.pinned (OpenSpec.ofChange keyringActsWrong)

/-- 'turnkeylaw16.MtreeTurned': WHATEVER THE INPUT: true; the input reads as it did. -/
def mtreeTurnedSpec : ChangeSpec := { name := "mtreeTurned", fn := fun _ => fun
  | [d1, d2, d3] => { results := [.lit (.bool true)], args := [d1, d2, d3] }
  | _ => none }
def mtreeTurnedRow : OpenClaim := { program := "ytfngacepjcdlnaadoor", sum := "d8a8a563601232e8cd923f6a247ffdbe8628b4bf757b0fcdc6b1695a628befda", func := "turnkey/turnkeylaw16.MtreeTurned", spec := "mtreeTurned", unfollowed := true, recurses := true, named := ["turnkey/sha512.constants"], apart := false, laid := [("turnkey/sha512.constants", laid_turnkey_sha512_constants)] }
def MtreeTurnedSaid : Prop := mtreeTurnedRow.holds Tryd.pinned (OpenSpec.ofChange mtreeTurnedSpec)

/-- ITS FALSE NEIGHBOUR: 'it returns false'. Refute it at one input. -/
def mtreeTurnedWrong : ChangeSpec := { name := "mtreeTurned", fn := fun _ => fun
  | [d1, d2, d3] => { results := [.lit (.bool false)], args := [d1, d2, d3] }
  | _ => none }
def MtreeTurnedWrongFalsely : Prop := mtreeTurnedRow.holds Tryd.pinned (OpenSpec.ofChange mtreeTurnedWrong)

/-- 'turnkeylaw24.PolicyKeys': WHATEVER THE INPUT: true; the input reads as it did. -/
def policyKeysSpec : ChangeSpec := { name := "policyKeys", fn := fun _ => fun
  | [d1, d2, d3] => { results := [.lit (.bool true)], args := [d1, d2, d3] }
  | _ => none }
def policyKeysRow : OpenClaim := { program := "ytfngacepjcdlnaadoor", sum := "d8a8a563601232e8cd923f6a247ffdbe8628b4bf757b0fcdc6b1695a628befda", func := "turnkey/turnkeylaw24.PolicyKeys", spec := "policyKeys", inPlace := ["internal/bytealg.Compare", "slices.overlaps[*turnkey/keyring.entry]"], unfollowed := true, recurses := true, named := ["turnkey/sha512.constants"], apart := false, laid := [("turnkey/sha512.constants", laid_turnkey_sha512_constants)] }
def PolicyKeysSaid : Prop := policyKeysRow.holds Tryd.pinned (OpenSpec.ofChange policyKeysSpec)

/-- ITS FALSE NEIGHBOUR: 'it returns false'. Refute it at one input. -/
def policyKeysWrong : ChangeSpec := { name := "policyKeys", fn := fun _ => fun
  | [d1, d2, d3] => { results := [.lit (.bool false)], args := [d1, d2, d3] }
  | _ => none }
def PolicyKeysWrongFalsely : Prop := policyKeysRow.holds Tryd.pinned (OpenSpec.ofChange policyKeysWrong)

/-- 'turnkeylaw16.MtreeActs': WHATEVER THE INPUT: true; the input reads as it did. -/
def mtreeActsSpec : ChangeSpec := { name := "mtreeActs", fn := fun _ => fun
  | [d1, d2] => { results := [.lit (.bool true)], args := [d1, d2] }
  | _ => none }
def mtreeActsRow : OpenClaim := { program := "ytfngacepjcdlnaadoor", sum := "d8a8a563601232e8cd923f6a247ffdbe8628b4bf757b0fcdc6b1695a628befda", func := "turnkey/turnkeylaw16.MtreeActs", spec := "mtreeActs", unfollowed := true, recurses := true, named := ["turnkey/sha512.constants"], apart := false, laid := [("turnkey/sha512.constants", laid_turnkey_sha512_constants)] }
def MtreeActsSaid : Prop := mtreeActsRow.holds Tryd.pinned (OpenSpec.ofChange mtreeActsSpec)

/-- ITS FALSE NEIGHBOUR: 'it returns false'. Refute it at one input. -/
def mtreeActsWrong : ChangeSpec := { name := "mtreeActs", fn := fun _ => fun
  | [d1, d2] => { results := [.lit (.bool false)], args := [d1, d2] }
  | _ => none }
def MtreeActsWrongFalsely : Prop := mtreeActsRow.holds Tryd.pinned (OpenSpec.ofChange mtreeActsWrong)

/-- 'turnkeylaw16.MtreePointers': WHATEVER THE INPUT: true; the input reads as it did. -/
def mtreePointersSpec : ChangeSpec := { name := "mtreePointers", fn := fun _ => fun
  | [d1, d2, d3] => { results := [.lit (.bool true)], args := [d1, d2, d3] }
  | _ => none }
def mtreePointersRow : OpenClaim := { program := "ytfngacepjcdlnaadoor", sum := "d8a8a563601232e8cd923f6a247ffdbe8628b4bf757b0fcdc6b1695a628befda", func := "turnkey/turnkeylaw16.MtreePointers", spec := "mtreePointers", unfollowed := true, recurses := true, named := ["turnkey/sha512.constants"], apart := false, laid := [("turnkey/sha512.constants", laid_turnkey_sha512_constants)] }
def MtreePointersSaid : Prop := mtreePointersRow.holds Tryd.pinned (OpenSpec.ofChange mtreePointersSpec)

/-- ITS FALSE NEIGHBOUR: 'it returns false'. Refute it at one input. -/
def mtreePointersWrong : ChangeSpec := { name := "mtreePointers", fn := fun _ => fun
  | [d1, d2, d3] => { results := [.lit (.bool false)], args := [d1, d2, d3] }
  | _ => none }
def MtreePointersWrongFalsely : Prop := mtreePointersRow.holds Tryd.pinned (OpenSpec.ofChange mtreePointersWrong)

/-- 'turnkeylaw16.MtreeTurns': WHATEVER THE INPUT: true; the input reads as it did. -/
def mtreeTurnsSpec : ChangeSpec := { name := "mtreeTurns", fn := fun _ => fun
  | [d1, d2, d3] => { results := [.lit (.bool true)], args := [d1, d2, d3] }
  | _ => none }
def mtreeTurnsRow : OpenClaim := { program := "ytfngacepjcdlnaadoor", sum := "d8a8a563601232e8cd923f6a247ffdbe8628b4bf757b0fcdc6b1695a628befda", func := "turnkey/turnkeylaw16.MtreeTurns", spec := "mtreeTurns", unfollowed := true, recurses := true, named := ["turnkey/sha512.constants"], apart := false, laid := [("turnkey/sha512.constants", laid_turnkey_sha512_constants)] }
def MtreeTurnsSaid : Prop := mtreeTurnsRow.holds Tryd.pinned (OpenSpec.ofChange mtreeTurnsSpec)

/-- ITS FALSE NEIGHBOUR: 'it returns false'. Refute it at one input. -/
def mtreeTurnsWrong : ChangeSpec := { name := "mtreeTurns", fn := fun _ => fun
  | [d1, d2, d3] => { results := [.lit (.bool false)], args := [d1, d2, d3] }
  | _ => none }
def MtreeTurnsWrongFalsely : Prop := mtreeTurnsRow.holds Tryd.pinned (OpenSpec.ofChange mtreeTurnsWrong)

/- THE SECOND FORM. 'bulk': how many values and letters a reading holds, each counted each time it is reached (what is shared counts as often as it is met; a slice's spare places count too). A statement '..UptoSaid' is the law's where the arguments, and the package variables that the reading takes, are together of bulk at most 1048576: NARROWER than '..Said'. Prove '..Said' where nothing that the law and all that it calls make is longer than what came in: it says more and counts as full. Else prove '..UptoSaid'. A law counts once. -/
mutual
def uptoBulk {H : Type} : DataW H → Nat
  | .lit (.string bytes) => bytes.length + 1
  | .lit _ => 1
  | .nil => 1
  | .ptr d => uptoBulk d + 1
  | .slice elems spare => uptoBulkAll elems + uptoBulkAll spare + 1
  | .agg parts => uptoBulkAll parts + 1
  | .iface _ d => uptoBulk d + 1
  | .map entries => uptoBulkEntries entries + 1
  | .held _ => 1
def uptoBulkAll {H : Type} : List (DataW H) → Nat
  | [] => 0
  | d :: r => uptoBulk d + uptoBulkAll r
def uptoBulkEntries {H : Type} : List (Lit × DataW H) → Nat
  | [] => 0
  | x :: r => uptoBulkEntry x + uptoBulkEntries r
def uptoBulkEntry {H : Type} : Lit × DataW H → Nat
  | (.string bytes, d) => bytes.length + uptoBulk d + 1
  | (_, d) => uptoBulk d + 1
 end
def uptoSmall : (H : Type) → List (DataW H) → Bool := fun _ ds => decide (uptoBulkAll ds ≤ 1048576)
def OpenSpec.upto (s : _root_.Go.ChangeSpec) : _root_.Go.OpenSpec := { _root_.Go.OpenSpec.ofChange s with cond := some uptoSmall }

/-- 'turnkeylaw24.PolicyNonces', WHERE WHAT IT READS IS OF BULK AT MOST 1048576: true; the input reads as it did. -/
def policyNoncesUptoRow : OpenClaim := { program := "ytfngacepjcdlnaadoor", sum := "d8a8a563601232e8cd923f6a247ffdbe8628b4bf757b0fcdc6b1695a628befda", func := "turnkey/turnkeylaw24.PolicyNonces", spec := "policyNonces", inPlace := ["internal/bytealg.Compare", "slices.overlaps[*turnkey/keyring.entry]"], unfollowed := true, recurses := true, named := ["turnkey/sha512.constants"], apart := false, laid := [("turnkey/sha512.constants", laid_turnkey_sha512_constants)], narrowed := true }
def PolicyNoncesUptoSaid : Prop := policyNoncesUptoRow.holds Tryd.pinned (OpenSpec.upto policyNoncesSpec)

/-- 'turnkeylaw16.MtreeSeals', WHERE WHAT IT READS IS OF BULK AT MOST 1048576: true; the input reads as it did. -/
def mtreeSealsUptoRow : OpenClaim := { program := "ytfngacepjcdlnaadoor", sum := "d8a8a563601232e8cd923f6a247ffdbe8628b4bf757b0fcdc6b1695a628befda", func := "turnkey/turnkeylaw16.MtreeSeals", spec := "mtreeSeals", unfollowed := true, recurses := true, named := ["turnkey/sha512.constants"], apart := false, laid := [("turnkey/sha512.constants", laid_turnkey_sha512_constants)], narrowed := true }
def MtreeSealsUptoSaid : Prop := mtreeSealsUptoRow.holds Tryd.pinned (OpenSpec.upto mtreeSealsSpec)

/-- 'turnkeylaw16.MtreeNames', WHERE WHAT IT READS IS OF BULK AT MOST 1048576: true; the input reads as it did. -/
def mtreeNamesUptoRow : OpenClaim := { program := "ytfngacepjcdlnaadoor", sum := "d8a8a563601232e8cd923f6a247ffdbe8628b4bf757b0fcdc6b1695a628befda", func := "turnkey/turnkeylaw16.MtreeNames", spec := "mtreeNames", unfollowed := true, recurses := true, named := ["turnkey/sha512.constants"], apart := false, laid := [("turnkey/sha512.constants", laid_turnkey_sha512_constants)], narrowed := true }
def MtreeNamesUptoSaid : Prop := mtreeNamesUptoRow.holds Tryd.pinned (OpenSpec.upto mtreeNamesSpec)

/-- 'turnkeylaw23.KeyringFull', WHERE WHAT IT READS IS OF BULK AT MOST 1048576: true; the input reads as it did. -/
def keyringFullUptoRow : OpenClaim := { program := "ytfngacepjcdlnaadoor", sum := "d8a8a563601232e8cd923f6a247ffdbe8628b4bf757b0fcdc6b1695a628befda", func := "turnkey/turnkeylaw23.KeyringFull", spec := "keyringFull", inPlace := ["internal/bytealg.Compare", "slices.overlaps[*turnkey/keyring.entry]"], unfollowed := true, recurses := true, named := ["turnkey/sha512.constants"], apart := false, laid := [("turnkey/sha512.constants", laid_turnkey_sha512_constants)], narrowed := true }
def KeyringFullUptoSaid : Prop := keyringFullUptoRow.holds Tryd.pinned (OpenSpec.upto keyringFullSpec)

/-- 'turnkeylaw23.KeyringApart', WHERE WHAT IT READS IS OF BULK AT MOST 1048576: true; the input reads as it did. -/
def keyringApartUptoRow : OpenClaim := { program := "ytfngacepjcdlnaadoor", sum := "d8a8a563601232e8cd923f6a247ffdbe8628b4bf757b0fcdc6b1695a628befda", func := "turnkey/turnkeylaw23.KeyringApart", spec := "keyringApart", inPlace := ["internal/bytealg.Compare", "slices.overlaps[*turnkey/keyring.entry]"], unfollowed := true, recurses := true, named := ["turnkey/sha512.constants"], apart := false, laid := [("turnkey/sha512.constants", laid_turnkey_sha512_constants)], narrowed := true }
def KeyringApartUptoSaid : Prop := keyringApartUptoRow.holds Tryd.pinned (OpenSpec.upto keyringApartSpec)

/-- 'turnkeylaw23.KeyringGone', WHERE WHAT IT READS IS OF BULK AT MOST 1048576: true; the input reads as it did. -/
def keyringGoneUptoRow : OpenClaim := { program := "ytfngacepjcdlnaadoor", sum := "d8a8a563601232e8cd923f6a247ffdbe8628b4bf757b0fcdc6b1695a628befda", func := "turnkey/turnkeylaw23.KeyringGone", spec := "keyringGone", inPlace := ["internal/bytealg.Compare", "slices.overlaps[*turnkey/keyring.entry]"], unfollowed := true, recurses := true, named := ["turnkey/sha512.constants"], apart := false, laid := [("turnkey/sha512.constants", laid_turnkey_sha512_constants)], narrowed := true }
def KeyringGoneUptoSaid : Prop := keyringGoneUptoRow.holds Tryd.pinned (OpenSpec.upto keyringGoneSpec)

/-- 'turnkeylaw16.MtreeOrder', WHERE WHAT IT READS IS OF BULK AT MOST 1048576: true; the input reads as it did. -/
def mtreeOrderUptoRow : OpenClaim := { program := "ytfngacepjcdlnaadoor", sum := "d8a8a563601232e8cd923f6a247ffdbe8628b4bf757b0fcdc6b1695a628befda", func := "turnkey/turnkeylaw16.MtreeOrder", spec := "mtreeOrder", unfollowed := true, recurses := true, named := ["turnkey/sha512.constants"], apart := false, laid := [("turnkey/sha512.constants", laid_turnkey_sha512_constants)], narrowed := true }
def MtreeOrderUptoSaid : Prop := mtreeOrderUptoRow.holds Tryd.pinned (OpenSpec.upto mtreeOrderSpec)

/-- 'turnkeylaw23.KeyringActs', WHERE WHAT IT READS IS OF BULK AT MOST 1048576: true; the input reads as it did. -/
def keyringActsUptoRow : OpenClaim := { program := "ytfngacepjcdlnaadoor", sum := "d8a8a563601232e8cd923f6a247ffdbe8628b4bf757b0fcdc6b1695a628befda", func := "turnkey/turnkeylaw23.KeyringActs", spec := "keyringActs", inPlace := ["internal/bytealg.Compare", "slices.overlaps[*turnkey/keyring.entry]"], unfollowed := true, recurses := true, named := ["turnkey/sha512.constants"], apart := false, laid := [("turnkey/sha512.constants", laid_turnkey_sha512_constants)], narrowed := true }
def KeyringActsUptoSaid : Prop := keyringActsUptoRow.holds Tryd.pinned (OpenSpec.upto keyringActsSpec)

/-- 'turnkeylaw16.MtreeTurned', WHERE WHAT IT READS IS OF BULK AT MOST 1048576: true; the input reads as it did. -/
def mtreeTurnedUptoRow : OpenClaim := { program := "ytfngacepjcdlnaadoor", sum := "d8a8a563601232e8cd923f6a247ffdbe8628b4bf757b0fcdc6b1695a628befda", func := "turnkey/turnkeylaw16.MtreeTurned", spec := "mtreeTurned", unfollowed := true, recurses := true, named := ["turnkey/sha512.constants"], apart := false, laid := [("turnkey/sha512.constants", laid_turnkey_sha512_constants)], narrowed := true }
def MtreeTurnedUptoSaid : Prop := mtreeTurnedUptoRow.holds Tryd.pinned (OpenSpec.upto mtreeTurnedSpec)

/-- 'turnkeylaw24.PolicyKeys', WHERE WHAT IT READS IS OF BULK AT MOST 1048576: true; the input reads as it did. -/
def policyKeysUptoRow : OpenClaim := { program := "ytfngacepjcdlnaadoor", sum := "d8a8a563601232e8cd923f6a247ffdbe8628b4bf757b0fcdc6b1695a628befda", func := "turnkey/turnkeylaw24.PolicyKeys", spec := "policyKeys", inPlace := ["internal/bytealg.Compare", "slices.overlaps[*turnkey/keyring.entry]"], unfollowed := true, recurses := true, named := ["turnkey/sha512.constants"], apart := false, laid := [("turnkey/sha512.constants", laid_turnkey_sha512_constants)], narrowed := true }
def PolicyKeysUptoSaid : Prop := policyKeysUptoRow.holds Tryd.pinned (OpenSpec.upto policyKeysSpec)

/-- 'turnkeylaw16.MtreeActs', WHERE WHAT IT READS IS OF BULK AT MOST 1048576: true; the input reads as it did. -/
def mtreeActsUptoRow : OpenClaim := { program := "ytfngacepjcdlnaadoor", sum := "d8a8a563601232e8cd923f6a247ffdbe8628b4bf757b0fcdc6b1695a628befda", func := "turnkey/turnkeylaw16.MtreeActs", spec := "mtreeActs", unfollowed := true, recurses := true, named := ["turnkey/sha512.constants"], apart := false, laid := [("turnkey/sha512.constants", laid_turnkey_sha512_constants)], narrowed := true }
def MtreeActsUptoSaid : Prop := mtreeActsUptoRow.holds Tryd.pinned (OpenSpec.upto mtreeActsSpec)

/-- 'turnkeylaw16.MtreePointers', WHERE WHAT IT READS IS OF BULK AT MOST 1048576: true; the input reads as it did. -/
def mtreePointersUptoRow : OpenClaim := { program := "ytfngacepjcdlnaadoor", sum := "d8a8a563601232e8cd923f6a247ffdbe8628b4bf757b0fcdc6b1695a628befda", func := "turnkey/turnkeylaw16.MtreePointers", spec := "mtreePointers", unfollowed := true, recurses := true, named := ["turnkey/sha512.constants"], apart := false, laid := [("turnkey/sha512.constants", laid_turnkey_sha512_constants)], narrowed := true }
def MtreePointersUptoSaid : Prop := mtreePointersUptoRow.holds Tryd.pinned (OpenSpec.upto mtreePointersSpec)

/-- 'turnkeylaw16.MtreeTurns', WHERE WHAT IT READS IS OF BULK AT MOST 1048576: true; the input reads as it did. -/
def mtreeTurnsUptoRow : OpenClaim := { program := "ytfngacepjcdlnaadoor", sum := "d8a8a563601232e8cd923f6a247ffdbe8628b4bf757b0fcdc6b1695a628befda", func := "turnkey/turnkeylaw16.MtreeTurns", spec := "mtreeTurns", unfollowed := true, recurses := true, named := ["turnkey/sha512.constants"], apart := false, laid := [("turnkey/sha512.constants", laid_turnkey_sha512_constants)], narrowed := true }
def MtreeTurnsUptoSaid : Prop := mtreeTurnsUptoRow.holds Tryd.pinned (OpenSpec.upto mtreeTurnsSpec)

end Rows
end Go.Proofs.YtfngacepjcdlnaaDoor
