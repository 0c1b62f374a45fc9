/-
  DERIVED. GIVEN WITH THE SEED: THE CARDS: each row of YtmdofdaiepilbaaGreatDoorRows.lean that lists a variable, with what it lists TIED to the program's text (the seventh form; the later family's looks); each row that meets fmt, with fmt's text TOLD by the authors' own Lean function (tested against real Go, not proved from fmt's source: count such statements apart). THE CARD IS WHAT COUNTS. Prove the row's statement (the work); the ties are given (YtmdofdaiepilbaaGreatDoorTie.lean); close each card by the builder's one call (the guide's Derived/Test/ToyasCard.lean, 'card_holds'). Laid BY PROGRAM, IN A SANDBOX (cutbox-door.mjs). By AI agents, Wed Nov 11 2026. No macro, syntax, notation, axiom, sorry.
-/
import Derived.Test.YtmdofdaiepilbaaGreatDoorRows
import GoSem.ClaimSeven
namespace Go.Proofs.YtmdofdaiepilbaaGreatDoor
namespace Rows

/-- THE TIED CARD OF 'pantographlaw18.CoverRoutes'. -/
def coverRoutesCard : Claim7 := { stood := { row := coverRoutesRow, standIns := [], harness := (true, "41d8778c8a7c469556e9b91a43ef705857a918dbabd50be91af5c75b514771d1"), looks := false }, kinds := [], alts := [], laidByText := true, laidKinds := [.data, .pinned], laidTests := true, laidLooks := .later }
def CoverRoutesCardSaid : Prop := Claim7.holds Tryz.pinned (.plain (OpenSpec.ofChange coverRoutesSpec)) coverRoutesCard

/-- THE TIED CARD OF 'pantographlaw18.CoverAll'. -/
def coverAllCard : Claim7 := { stood := { row := coverAllRow, standIns := [], harness := (true, "41d8778c8a7c469556e9b91a43ef705857a918dbabd50be91af5c75b514771d1"), looks := false }, kinds := [], alts := [], laidByText := true, laidKinds := [.data, .pinned], laidTests := true, laidLooks := .later }
def CoverAllCardSaid : Prop := Claim7.holds Tryz.pinned (.plain (OpenSpec.ofChange coverAllSpec)) coverAllCard

/-- THE TIED CARD OF 'pantographlaw18.CoverNothing'. -/
def coverNothingCard : Claim7 := { stood := { row := coverNothingRow, standIns := [], harness := (true, "41d8778c8a7c469556e9b91a43ef705857a918dbabd50be91af5c75b514771d1"), looks := false }, kinds := [], alts := [], laidByText := true, laidKinds := [.data, .pinned], laidTests := true, laidLooks := .later }
def CoverNothingCardSaid : Prop := Claim7.holds Tryz.pinned (.plain (OpenSpec.ofChange coverNothingSpec)) coverNothingCard

/-- THE TIED CARD OF 'pantographlaw18.CoverRows'. -/
def coverRowsCard : Claim7 := { stood := { row := coverRowsRow, standIns := [], harness := (true, "41d8778c8a7c469556e9b91a43ef705857a918dbabd50be91af5c75b514771d1"), looks := false }, kinds := [], alts := [], laidByText := true, laidKinds := [.data, .pinned], laidTests := true, laidLooks := .later }
def CoverRowsCardSaid : Prop := Claim7.holds Tryz.pinned (.plain (OpenSpec.ofChange coverRowsSpec)) coverRowsCard

/-- THE SECOND FORM's CARD OF 'pantographlaw18.CoverRoutes'. -/
def coverRoutesUptoCard : Claim7 := { stood := { row := coverRoutesUptoRow, standIns := [], harness := (true, "41d8778c8a7c469556e9b91a43ef705857a918dbabd50be91af5c75b514771d1"), looks := false }, kinds := [], alts := [], laidByText := true, laidKinds := [.data, .pinned], laidTests := true, laidLooks := .later }
def CoverRoutesUptoCardSaid : Prop := Claim7.holds Tryz.pinned (.plain (OpenSpec.upto coverRoutesSpec)) coverRoutesUptoCard

/-- THE SECOND FORM's CARD OF 'pantographlaw18.CoverAll'. -/
def coverAllUptoCard : Claim7 := { stood := { row := coverAllUptoRow, standIns := [], harness := (true, "41d8778c8a7c469556e9b91a43ef705857a918dbabd50be91af5c75b514771d1"), looks := false }, kinds := [], alts := [], laidByText := true, laidKinds := [.data, .pinned], laidTests := true, laidLooks := .later }
def CoverAllUptoCardSaid : Prop := Claim7.holds Tryz.pinned (.plain (OpenSpec.upto coverAllSpec)) coverAllUptoCard

/-- THE SECOND FORM's CARD OF 'pantographlaw18.CoverNothing'. -/
def coverNothingUptoCard : Claim7 := { stood := { row := coverNothingUptoRow, standIns := [], harness := (true, "41d8778c8a7c469556e9b91a43ef705857a918dbabd50be91af5c75b514771d1"), looks := false }, kinds := [], alts := [], laidByText := true, laidKinds := [.data, .pinned], laidTests := true, laidLooks := .later }
def CoverNothingUptoCardSaid : Prop := Claim7.holds Tryz.pinned (.plain (OpenSpec.upto coverNothingSpec)) coverNothingUptoCard

/-- THE SECOND FORM's CARD OF 'pantographlaw18.CoverRows'. -/
def coverRowsUptoCard : Claim7 := { stood := { row := coverRowsUptoRow, standIns := [], harness := (true, "41d8778c8a7c469556e9b91a43ef705857a918dbabd50be91af5c75b514771d1"), looks := false }, kinds := [], alts := [], laidByText := true, laidKinds := [.data, .pinned], laidTests := true, laidLooks := .later }
def CoverRowsUptoCardSaid : Prop := Claim7.holds Tryz.pinned (.plain (OpenSpec.upto coverRowsSpec)) coverRowsUptoCard
end Rows
end Go.Proofs.YtmdofdaiepilbaaGreatDoor
