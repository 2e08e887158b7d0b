/-
  DERIVED. GIVEN WITH THE SEED: THE CARDS: each row of YtfngacepjcdlnaaDoorRows.lean that lists a variable, with what it lists TIED to the program's text (the seventh form; the later family's looks); each row that meets fmt, with fmt's text TOLD by the authors' own Lean function (tested against real Go, not proved from fmt's source: count such statements apart). THE CARD IS WHAT COUNTS. Prove the row's statement (the work); the ties are given (YtfngacepjcdlnaaDoorTie.lean); close each card by the builder's one call (the guide's Derived/Test/ToyasCard.lean, 'card_holds'). Laid BY PROGRAM, IN A SANDBOX (cutbox-door.mjs). By AI agents, Wed Nov 11 2026. No macro, syntax, notation, axiom, sorry.
-/
import Derived.Test.YtfngacepjcdlnaaDoorRows
import GoSem.ClaimSeven
namespace Go.Proofs.YtfngacepjcdlnaaDoor
namespace Rows

/-- THE TIED CARD OF 'turnkeylaw24.PolicyNonces'. -/
def policyNoncesCard : Claim7 := { stood := { row := policyNoncesRow, standIns := [], harness := (true, "4864b4e363d7f3fe361121a5fbfaf0756e33563c6fb8eaa67706aee317a513a7"), looks := false }, kinds := [], alts := [], laidByText := true, laidKinds := [.data], laidTests := true, laidLooks := .later }
def PolicyNoncesCardSaid : Prop := Claim7.holds Tryd.pinned (.plain (OpenSpec.ofChange policyNoncesSpec)) policyNoncesCard

/-- THE TIED CARD OF 'turnkeylaw16.MtreeSeals'. -/
def mtreeSealsCard : Claim7 := { stood := { row := mtreeSealsRow, standIns := [], harness := (true, "4864b4e363d7f3fe361121a5fbfaf0756e33563c6fb8eaa67706aee317a513a7"), looks := false }, kinds := [], alts := [], laidByText := true, laidKinds := [.data], laidTests := true, laidLooks := .later }
def MtreeSealsCardSaid : Prop := Claim7.holds Tryd.pinned (.plain (OpenSpec.ofChange mtreeSealsSpec)) mtreeSealsCard

/-- THE TIED CARD OF 'turnkeylaw16.MtreeNames'. -/
def mtreeNamesCard : Claim7 := { stood := { row := mtreeNamesRow, standIns := [], harness := (true, "4864b4e363d7f3fe361121a5fbfaf0756e33563c6fb8eaa67706aee317a513a7"), looks := false }, kinds := [], alts := [], laidByText := true, laidKinds := [.data], laidTests := true, laidLooks := .later }
def MtreeNamesCardSaid : Prop := Claim7.holds Tryd.pinned (.plain (OpenSpec.ofChange mtreeNamesSpec)) mtreeNamesCard

/-- THE TIED CARD OF 'turnkeylaw23.KeyringFull'. -/
def keyringFullCard : Claim7 := { stood := { row := keyringFullRow, standIns := [], harness := (true, "4864b4e363d7f3fe361121a5fbfaf0756e33563c6fb8eaa67706aee317a513a7"), looks := false }, kinds := [], alts := [], laidByText := true, laidKinds := [.data], laidTests := true, laidLooks := .later }
def KeyringFullCardSaid : Prop := Claim7.holds Tryd.pinned (.plain (OpenSpec.ofChange keyringFullSpec)) keyringFullCard

/-- THE TIED CARD OF 'turnkeylaw23.KeyringApart'. -/
def keyringApartCard : Claim7 := { stood := { row := keyringApartRow, standIns := [], harness := (true, "4864b4e363d7f3fe361121a5fbfaf0756e33563c6fb8eaa67706aee317a513a7"), looks := false }, kinds := [], alts := [], laidByText := true, laidKinds := [.data], laidTests := true, laidLooks := .later }
def KeyringApartCardSaid : Prop := Claim7.holds Tryd.pinned (.plain (OpenSpec.ofChange keyringApartSpec)) keyringApartCard

/-- THE TIED CARD OF 'turnkeylaw23.KeyringGone'. -/
def keyringGoneCard : Claim7 := { stood := { row := keyringGoneRow, standIns := [], harness := (true, "4864b4e363d7f3fe361121a5fbfaf0756e33563c6fb8eaa67706aee317a513a7"), looks := false }, kinds := [], alts := [], laidByText := true, laidKinds := [.data], laidTests := true, laidLooks := .later }
def KeyringGoneCardSaid : Prop := Claim7.holds Tryd.pinned (.plain (OpenSpec.ofChange keyringGoneSpec)) keyringGoneCard

/-- THE TIED CARD OF 'turnkeylaw16.MtreeOrder'. -/
def mtreeOrderCard : Claim7 := { stood := { row := mtreeOrderRow, standIns := [], harness := (true, "4864b4e363d7f3fe361121a5fbfaf0756e33563c6fb8eaa67706aee317a513a7"), looks := false }, kinds := [], alts := [], laidByText := true, laidKinds := [.data], laidTests := true, laidLooks := .later }
def MtreeOrderCardSaid : Prop := Claim7.holds Tryd.pinned (.plain (OpenSpec.ofChange mtreeOrderSpec)) mtreeOrderCard

/-- THE TIED CARD OF 'turnkeylaw23.KeyringActs'. -/
def keyringActsCard : Claim7 := { stood := { row := keyringActsRow, standIns := [], harness := (true, "4864b4e363d7f3fe361121a5fbfaf0756e33563c6fb8eaa67706aee317a513a7"), looks := false }, kinds := [], alts := [], laidByText := true, laidKinds := [.data], laidTests := true, laidLooks := .later }
def KeyringActsCardSaid : Prop := Claim7.holds Tryd.pinned (.plain (OpenSpec.ofChange keyringActsSpec)) keyringActsCard

/-- THE TIED CARD OF 'turnkeylaw16.MtreeTurned'. -/
def mtreeTurnedCard : Claim7 := { stood := { row := mtreeTurnedRow, standIns := [], harness := (true, "4864b4e363d7f3fe361121a5fbfaf0756e33563c6fb8eaa67706aee317a513a7"), looks := false }, kinds := [], alts := [], laidByText := true, laidKinds := [.data], laidTests := true, laidLooks := .later }
def MtreeTurnedCardSaid : Prop := Claim7.holds Tryd.pinned (.plain (OpenSpec.ofChange mtreeTurnedSpec)) mtreeTurnedCard

/-- THE TIED CARD OF 'turnkeylaw24.PolicyKeys'. -/
def policyKeysCard : Claim7 := { stood := { row := policyKeysRow, standIns := [], harness := (true, "4864b4e363d7f3fe361121a5fbfaf0756e33563c6fb8eaa67706aee317a513a7"), looks := false }, kinds := [], alts := [], laidByText := true, laidKinds := [.data], laidTests := true, laidLooks := .later }
def PolicyKeysCardSaid : Prop := Claim7.holds Tryd.pinned (.plain (OpenSpec.ofChange policyKeysSpec)) policyKeysCard

/-- THE TIED CARD OF 'turnkeylaw16.MtreeActs'. -/
def mtreeActsCard : Claim7 := { stood := { row := mtreeActsRow, standIns := [], harness := (true, "4864b4e363d7f3fe361121a5fbfaf0756e33563c6fb8eaa67706aee317a513a7"), looks := false }, kinds := [], alts := [], laidByText := true, laidKinds := [.data], laidTests := true, laidLooks := .later }
def MtreeActsCardSaid : Prop := Claim7.holds Tryd.pinned (.plain (OpenSpec.ofChange mtreeActsSpec)) mtreeActsCard

/-- THE TIED CARD OF 'turnkeylaw16.MtreePointers'. -/
def mtreePointersCard : Claim7 := { stood := { row := mtreePointersRow, standIns := [], harness := (true, "4864b4e363d7f3fe361121a5fbfaf0756e33563c6fb8eaa67706aee317a513a7"), looks := false }, kinds := [], alts := [], laidByText := true, laidKinds := [.data], laidTests := true, laidLooks := .later }
def MtreePointersCardSaid : Prop := Claim7.holds Tryd.pinned (.plain (OpenSpec.ofChange mtreePointersSpec)) mtreePointersCard

/-- THE TIED CARD OF 'turnkeylaw16.MtreeTurns'. -/
def mtreeTurnsCard : Claim7 := { stood := { row := mtreeTurnsRow, standIns := [], harness := (true, "4864b4e363d7f3fe361121a5fbfaf0756e33563c6fb8eaa67706aee317a513a7"), looks := false }, kinds := [], alts := [], laidByText := true, laidKinds := [.data], laidTests := true, laidLooks := .later }
def MtreeTurnsCardSaid : Prop := Claim7.holds Tryd.pinned (.plain (OpenSpec.ofChange mtreeTurnsSpec)) mtreeTurnsCard

/-- THE SECOND FORM's CARD OF 'turnkeylaw24.PolicyNonces'. -/
def policyNoncesUptoCard : Claim7 := { stood := { row := policyNoncesUptoRow, standIns := [], harness := (true, "4864b4e363d7f3fe361121a5fbfaf0756e33563c6fb8eaa67706aee317a513a7"), looks := false }, kinds := [], alts := [], laidByText := true, laidKinds := [.data], laidTests := true, laidLooks := .later }
def PolicyNoncesUptoCardSaid : Prop := Claim7.holds Tryd.pinned (.plain (OpenSpec.upto policyNoncesSpec)) policyNoncesUptoCard

/-- THE SECOND FORM's CARD OF 'turnkeylaw16.MtreeSeals'. -/
def mtreeSealsUptoCard : Claim7 := { stood := { row := mtreeSealsUptoRow, standIns := [], harness := (true, "4864b4e363d7f3fe361121a5fbfaf0756e33563c6fb8eaa67706aee317a513a7"), looks := false }, kinds := [], alts := [], laidByText := true, laidKinds := [.data], laidTests := true, laidLooks := .later }
def MtreeSealsUptoCardSaid : Prop := Claim7.holds Tryd.pinned (.plain (OpenSpec.upto mtreeSealsSpec)) mtreeSealsUptoCard

/-- THE SECOND FORM's CARD OF 'turnkeylaw16.MtreeNames'. -/
def mtreeNamesUptoCard : Claim7 := { stood := { row := mtreeNamesUptoRow, standIns := [], harness := (true, "4864b4e363d7f3fe361121a5fbfaf0756e33563c6fb8eaa67706aee317a513a7"), looks := false }, kinds := [], alts := [], laidByText := true, laidKinds := [.data], laidTests := true, laidLooks := .later }
def MtreeNamesUptoCardSaid : Prop := Claim7.holds Tryd.pinned (.plain (OpenSpec.upto mtreeNamesSpec)) mtreeNamesUptoCard

/-- THE SECOND FORM's CARD OF 'turnkeylaw23.KeyringFull'. -/
def keyringFullUptoCard : Claim7 := { stood := { row := keyringFullUptoRow, standIns := [], harness := (true, "4864b4e363d7f3fe361121a5fbfaf0756e33563c6fb8eaa67706aee317a513a7"), looks := false }, kinds := [], alts := [], laidByText := true, laidKinds := [.data], laidTests := true, laidLooks := .later }
def KeyringFullUptoCardSaid : Prop := Claim7.holds Tryd.pinned (.plain (OpenSpec.upto keyringFullSpec)) keyringFullUptoCard

/-- THE SECOND FORM's CARD OF 'turnkeylaw23.KeyringApart'. -/
def keyringApartUptoCard : Claim7 := { stood := { row := keyringApartUptoRow, standIns := [], harness := (true, "4864b4e363d7f3fe361121a5fbfaf0756e33563c6fb8eaa67706aee317a513a7"), looks := false }, kinds := [], alts := [], laidByText := true, laidKinds := [.data], laidTests := true, laidLooks := .later }
def KeyringApartUptoCardSaid : Prop := Claim7.holds Tryd.pinned (.plain (OpenSpec.upto keyringApartSpec)) keyringApartUptoCard

/-- THE SECOND FORM's CARD OF 'turnkeylaw23.KeyringGone'. -/
def keyringGoneUptoCard : Claim7 := { stood := { row := keyringGoneUptoRow, standIns := [], harness := (true, "4864b4e363d7f3fe361121a5fbfaf0756e33563c6fb8eaa67706aee317a513a7"), looks := false }, kinds := [], alts := [], laidByText := true, laidKinds := [.data], laidTests := true, laidLooks := .later }
def KeyringGoneUptoCardSaid : Prop := Claim7.holds Tryd.pinned (.plain (OpenSpec.upto keyringGoneSpec)) keyringGoneUptoCard

/-- THE SECOND FORM's CARD OF 'turnkeylaw16.MtreeOrder'. -/
def mtreeOrderUptoCard : Claim7 := { stood := { row := mtreeOrderUptoRow, standIns := [], harness := (true, "4864b4e363d7f3fe361121a5fbfaf0756e33563c6fb8eaa67706aee317a513a7"), looks := false }, kinds := [], alts := [], laidByText := true, laidKinds := [.data], laidTests := true, laidLooks := .later }
def MtreeOrderUptoCardSaid : Prop := Claim7.holds Tryd.pinned (.plain (OpenSpec.upto mtreeOrderSpec)) mtreeOrderUptoCard

/-- THE SECOND FORM's CARD OF 'turnkeylaw23.KeyringActs'. -/
def keyringActsUptoCard : Claim7 := { stood := { row := keyringActsUptoRow, standIns := [], harness := (true, "4864b4e363d7f3fe361121a5fbfaf0756e33563c6fb8eaa67706aee317a513a7"), looks := false }, kinds := [], alts := [], laidByText := true, laidKinds := [.data], laidTests := true, laidLooks := .later }
def KeyringActsUptoCardSaid : Prop := Claim7.holds Tryd.pinned (.plain (OpenSpec.upto keyringActsSpec)) keyringActsUptoCard

/-- THE SECOND FORM's CARD OF 'turnkeylaw16.MtreeTurned'. -/
def mtreeTurnedUptoCard : Claim7 := { stood := { row := mtreeTurnedUptoRow, standIns := [], harness := (true, "4864b4e363d7f3fe361121a5fbfaf0756e33563c6fb8eaa67706aee317a513a7"), looks := false }, kinds := [], alts := [], laidByText := true, laidKinds := [.data], laidTests := true, laidLooks := .later }
def MtreeTurnedUptoCardSaid : Prop := Claim7.holds Tryd.pinned (.plain (OpenSpec.upto mtreeTurnedSpec)) mtreeTurnedUptoCard

/-- THE SECOND FORM's CARD OF 'turnkeylaw24.PolicyKeys'. -/
def policyKeysUptoCard : Claim7 := { stood := { row := policyKeysUptoRow, standIns := [], harness := (true, "4864b4e363d7f3fe361121a5fbfaf0756e33563c6fb8eaa67706aee317a513a7"), looks := false }, kinds := [], alts := [], laidByText := true, laidKinds := [.data], laidTests := true, laidLooks := .later }
def PolicyKeysUptoCardSaid : Prop := Claim7.holds Tryd.pinned (.plain (OpenSpec.upto policyKeysSpec)) policyKeysUptoCard

/-- THE SECOND FORM's CARD OF 'turnkeylaw16.MtreeActs'. -/
def mtreeActsUptoCard : Claim7 := { stood := { row := mtreeActsUptoRow, standIns := [], harness := (true, "4864b4e363d7f3fe361121a5fbfaf0756e33563c6fb8eaa67706aee317a513a7"), looks := false }, kinds := [], alts := [], laidByText := true, laidKinds := [.data], laidTests := true, laidLooks := .later }
def MtreeActsUptoCardSaid : Prop := Claim7.holds Tryd.pinned (.plain (OpenSpec.upto mtreeActsSpec)) mtreeActsUptoCard

/-- THE SECOND FORM's CARD OF 'turnkeylaw16.MtreePointers'. -/
def mtreePointersUptoCard : Claim7 := { stood := { row := mtreePointersUptoRow, standIns := [], harness := (true, "4864b4e363d7f3fe361121a5fbfaf0756e33563c6fb8eaa67706aee317a513a7"), looks := false }, kinds := [], alts := [], laidByText := true, laidKinds := [.data], laidTests := true, laidLooks := .later }
def MtreePointersUptoCardSaid : Prop := Claim7.holds Tryd.pinned (.plain (OpenSpec.upto mtreePointersSpec)) mtreePointersUptoCard

/-- THE SECOND FORM's CARD OF 'turnkeylaw16.MtreeTurns'. -/
def mtreeTurnsUptoCard : Claim7 := { stood := { row := mtreeTurnsUptoRow, standIns := [], harness := (true, "4864b4e363d7f3fe361121a5fbfaf0756e33563c6fb8eaa67706aee317a513a7"), looks := false }, kinds := [], alts := [], laidByText := true, laidKinds := [.data], laidTests := true, laidLooks := .later }
def MtreeTurnsUptoCardSaid : Prop := Claim7.holds Tryd.pinned (.plain (OpenSpec.upto mtreeTurnsSpec)) mtreeTurnsUptoCard
end Rows
end Go.Proofs.YtfngacepjcdlnaaDoor
