/-
  DERIVED. GIVEN WITH THE SEED: THE CARDS: each row of YtapcoekakbbmcaaGreatDoorRows.lean that lists a variable, with what it lists TIED to the program's text (the seventh form; the later family's looks); each row that meets fmt, with fmt's text TOLD by the authors' own Lean function (tested against real Go, not proved from fmt's source: count such statements apart). THE CARD IS WHAT COUNTS. Prove the row's statement (the work); the ties are given (YtapcoekakbbmcaaGreatDoorTie.lean); close each card by the builder's one call (the guide's Derived/Test/ToyasCard.lean, 'card_holds'). Laid BY PROGRAM, IN A SANDBOX (cutbox-door.mjs). By AI agents, Wed Nov 11 2026. No macro, syntax, notation, axiom, sorry.
-/
import Derived.Test.YtapcoekakbbmcaaGreatDoorRows
import GoSem.ClaimSeven
namespace Go.Proofs.YtapcoekakbbmcaaGreatDoor
namespace Rows

/-- THE TIED CARD OF 'pantographlaw14.WalOf'. -/
def walOfCard : Claim7 := { stood := { row := walOfRow, standIns := [], harness := (true, "bdca7d0684ff6b5af05f4067077fbd60172571138195c71fe3943a1730467da9"), looks := false }, kinds := [], alts := [], laidByText := true, laidKinds := [.data, .pinned], laidTests := true, laidLooks := .later }
def WalOfCardSaid : Prop := Claim7.holds Tryz.pinned (.plain (OpenSpec.ofChange walOfSpec)) walOfCard

/-- THE TIED CARD OF 'pantographlaw14.WalReads'. -/
def walReadsCard : Claim7 := { stood := { row := walReadsRow, standIns := [], harness := (true, "bdca7d0684ff6b5af05f4067077fbd60172571138195c71fe3943a1730467da9"), looks := false }, kinds := [], alts := [], laidByText := true, laidKinds := [.data, .pinned], laidTests := true, laidLooks := .later }
def WalReadsCardSaid : Prop := Claim7.holds Tryz.pinned (.plain (OpenSpec.ofChange walReadsSpec)) walReadsCard

/-- THE TIED CARD OF 'pantographlaw14.WalEmpty'. -/
def walEmptyCard : Claim7 := { stood := { row := walEmptyRow, standIns := [], harness := (true, "bdca7d0684ff6b5af05f4067077fbd60172571138195c71fe3943a1730467da9"), looks := false }, kinds := [], alts := [], laidByText := true, laidKinds := [.data, .pinned], laidTests := true, laidLooks := .later }
def WalEmptyCardSaid : Prop := Claim7.holds Tryz.pinned (.plain (OpenSpec.ofChange walEmptySpec)) walEmptyCard

/-- THE TIED CARD OF 'pantographlaw14.WalBehind'. -/
def walBehindCard : Claim7 := { stood := { row := walBehindRow, standIns := [], harness := (true, "bdca7d0684ff6b5af05f4067077fbd60172571138195c71fe3943a1730467da9"), looks := false }, kinds := [], alts := [], laidByText := true, laidKinds := [.data, .pinned], laidTests := true, laidLooks := .later }
def WalBehindCardSaid : Prop := Claim7.holds Tryz.pinned (.plain (OpenSpec.ofChange walBehindSpec)) walBehindCard

/-- THE TIED CARD OF 'pantographlaw14.WalWrites'. -/
def walWritesCard : Claim7 := { stood := { row := walWritesRow, standIns := [], harness := (true, "bdca7d0684ff6b5af05f4067077fbd60172571138195c71fe3943a1730467da9"), looks := false }, kinds := [], alts := [], laidByText := true, laidKinds := [.data, .pinned], laidTests := true, laidLooks := .later }
def WalWritesCardSaid : Prop := Claim7.holds Tryz.pinned (.plain (OpenSpec.ofChange walWritesSpec)) walWritesCard

/-- THE TIED CARD OF 'pantographlaw14.WalSame'. -/
def walSameCard : Claim7 := { stood := { row := walSameRow, standIns := [], harness := (true, "bdca7d0684ff6b5af05f4067077fbd60172571138195c71fe3943a1730467da9"), looks := false }, kinds := [], alts := [], laidByText := true, laidKinds := [.data, .pinned], laidTests := true, laidLooks := .later }
def WalSameCardSaid : Prop := Claim7.holds Tryz.pinned (.plain (OpenSpec.ofChange walSameSpec)) walSameCard

/-- THE TIED CARD OF 'pantographlaw14.WalJoins'. -/
def walJoinsCard : Claim7 := { stood := { row := walJoinsRow, standIns := [], harness := (true, "bdca7d0684ff6b5af05f4067077fbd60172571138195c71fe3943a1730467da9"), looks := false }, kinds := [], alts := [], laidByText := true, laidKinds := [.data, .pinned], laidTests := true, laidLooks := .later }
def WalJoinsCardSaid : Prop := Claim7.holds Tryz.pinned (.plain (OpenSpec.ofChange walJoinsSpec)) walJoinsCard

/-- THE SECOND FORM's CARD OF 'pantographlaw14.WalOf'. -/
def walOfUptoCard : Claim7 := { stood := { row := walOfUptoRow, standIns := [], harness := (true, "bdca7d0684ff6b5af05f4067077fbd60172571138195c71fe3943a1730467da9"), looks := false }, kinds := [], alts := [], laidByText := true, laidKinds := [.data, .pinned], laidTests := true, laidLooks := .later }
def WalOfUptoCardSaid : Prop := Claim7.holds Tryz.pinned (.plain (OpenSpec.upto walOfSpec)) walOfUptoCard

/-- THE SECOND FORM's CARD OF 'pantographlaw14.WalReads'. -/
def walReadsUptoCard : Claim7 := { stood := { row := walReadsUptoRow, standIns := [], harness := (true, "bdca7d0684ff6b5af05f4067077fbd60172571138195c71fe3943a1730467da9"), looks := false }, kinds := [], alts := [], laidByText := true, laidKinds := [.data, .pinned], laidTests := true, laidLooks := .later }
def WalReadsUptoCardSaid : Prop := Claim7.holds Tryz.pinned (.plain (OpenSpec.upto walReadsSpec)) walReadsUptoCard

/-- THE SECOND FORM's CARD OF 'pantographlaw14.WalEmpty'. -/
def walEmptyUptoCard : Claim7 := { stood := { row := walEmptyUptoRow, standIns := [], harness := (true, "bdca7d0684ff6b5af05f4067077fbd60172571138195c71fe3943a1730467da9"), looks := false }, kinds := [], alts := [], laidByText := true, laidKinds := [.data, .pinned], laidTests := true, laidLooks := .later }
def WalEmptyUptoCardSaid : Prop := Claim7.holds Tryz.pinned (.plain (OpenSpec.upto walEmptySpec)) walEmptyUptoCard

/-- THE SECOND FORM's CARD OF 'pantographlaw14.WalBehind'. -/
def walBehindUptoCard : Claim7 := { stood := { row := walBehindUptoRow, standIns := [], harness := (true, "bdca7d0684ff6b5af05f4067077fbd60172571138195c71fe3943a1730467da9"), looks := false }, kinds := [], alts := [], laidByText := true, laidKinds := [.data, .pinned], laidTests := true, laidLooks := .later }
def WalBehindUptoCardSaid : Prop := Claim7.holds Tryz.pinned (.plain (OpenSpec.upto walBehindSpec)) walBehindUptoCard

/-- THE SECOND FORM's CARD OF 'pantographlaw14.WalWrites'. -/
def walWritesUptoCard : Claim7 := { stood := { row := walWritesUptoRow, standIns := [], harness := (true, "bdca7d0684ff6b5af05f4067077fbd60172571138195c71fe3943a1730467da9"), looks := false }, kinds := [], alts := [], laidByText := true, laidKinds := [.data, .pinned], laidTests := true, laidLooks := .later }
def WalWritesUptoCardSaid : Prop := Claim7.holds Tryz.pinned (.plain (OpenSpec.upto walWritesSpec)) walWritesUptoCard

/-- THE SECOND FORM's CARD OF 'pantographlaw14.WalSame'. -/
def walSameUptoCard : Claim7 := { stood := { row := walSameUptoRow, standIns := [], harness := (true, "bdca7d0684ff6b5af05f4067077fbd60172571138195c71fe3943a1730467da9"), looks := false }, kinds := [], alts := [], laidByText := true, laidKinds := [.data, .pinned], laidTests := true, laidLooks := .later }
def WalSameUptoCardSaid : Prop := Claim7.holds Tryz.pinned (.plain (OpenSpec.upto walSameSpec)) walSameUptoCard

/-- THE SECOND FORM's CARD OF 'pantographlaw14.WalJoins'. -/
def walJoinsUptoCard : Claim7 := { stood := { row := walJoinsUptoRow, standIns := [], harness := (true, "bdca7d0684ff6b5af05f4067077fbd60172571138195c71fe3943a1730467da9"), looks := false }, kinds := [], alts := [], laidByText := true, laidKinds := [.data, .pinned], laidTests := true, laidLooks := .later }
def WalJoinsUptoCardSaid : Prop := Claim7.holds Tryz.pinned (.plain (OpenSpec.upto walJoinsSpec)) walJoinsUptoCard
end Rows
end Go.Proofs.YtapcoekakbbmcaaGreatDoor
