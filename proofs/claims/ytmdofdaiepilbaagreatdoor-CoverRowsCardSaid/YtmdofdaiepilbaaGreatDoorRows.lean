/-
  NARROWER THAN 'FOR EVERY INPUT', by the rows' own cells (each row's printed sentence says how): CoverRoutes: laid · CoverAll: laid · CoverNothing: laid · CoverRows: laid.
  DERIVED. THE GIVEN ROWS OF THIS SEAT. 4 by the template 'for every input the law returns true; each argument reads behind the call as it read before'; 0 by the template 'total and deterministic' (their statements: YtmdofdaiepilbaaGreatDoorTotals.lean).
  GIVEN WITH THE SEED: the statements are not yours to turn. If you find one false, say at which input.
  Laid BY PROGRAM, IN A SANDBOX (cutbox-rows.mjs): the forced cells as the released guide's own fill.sh prints them over the translation 64ad2cccf318bf66… (all of the seat's roots in one cut). By AI agents, Wed Nov 11 2026. No macro, syntax, notation, axiom, sorry.
-/
import Derived.Test.YtmdofdaiepilbaaGreatDoorChecked
import GoSem.PinnedTables
import GoSem.Claim
import GoSem.ClaimJoined
import GoSem.ClaimMapViews
import Derived.JoinedTies
import Derived.KernelRfl
namespace Go.Proofs.YtmdofdaiepilbaaGreatDoor
/- THE CELL 'sum', in the pinned program and in every row, IS THE sha256 OF THE DUMP (.gsa) THAT YtmdofdaiepilbaaGreatDoorProg.lean LOADS. Nothing in Lean hashes anything: it is a label: what it is worth is what the hold of that sum in a sandbox is worth. -/
noncomputable def Tryz.pinned : Pinned := { name := "ytmdofdaiepilbaagreatdoor", sum := "64ad2cccf318bf66f2c3778cd0e2136c8ecc32840bf5bafd07c5b0823d88a68d", checked := Tryz.checked }
namespace Rows
def none {H : Type} : Left H := { results := [], args := [] }

/- WHAT THE LISTED PACKAGE-LEVEL VARIABLES READ AS WHEN THE CALL BEGINS. Each datum BY PROGRAM (the guide's laid-datum.mjs) off the statement by which the dump's own 'gosem.cut.vars' lays the variable. In a bare row this is a premise. The card (YtmdofdaiepilbaaGreatDoorCards.lean) ties it to the program's text. -/
def laid_unicode_utf8_acceptRanges {H : Type} : DataW H := .agg [.agg [.lit (.int .u8 128), .lit (.int .u8 191)], .agg [.lit (.int .u8 160), .lit (.int .u8 191)], .agg [.lit (.int .u8 128), .lit (.int .u8 159)], .agg [.lit (.int .u8 144), .lit (.int .u8 191)], .agg [.lit (.int .u8 128), .lit (.int .u8 143)], .agg [.lit (.int .u8 0), .lit (.int .u8 0)], .agg [.lit (.int .u8 0), .lit (.int .u8 0)], .agg [.lit (.int .u8 0), .lit (.int .u8 0)], .agg [.lit (.int .u8 0), .lit (.int .u8 0)], .agg [.lit (.int .u8 0), .lit (.int .u8 0)], .agg [.lit (.int .u8 0), .lit (.int .u8 0)], .agg [.lit (.int .u8 0), .lit (.int .u8 0)], .agg [.lit (.int .u8 0), .lit (.int .u8 0)], .agg [.lit (.int .u8 0), .lit (.int .u8 0)], .agg [.lit (.int .u8 0), .lit (.int .u8 0)], .agg [.lit (.int .u8 0), .lit (.int .u8 0)]]
/-- One of Go's own tables, pinned by name: the form's constant. -/
def laid_unicode_utf8_first : DataW Unit := Go.Pinned.utf8First

/-- 'pantographlaw18.CoverRoutes': WHATEVER THE INPUT: true; the input reads as it did. -/
def coverRoutesSpec : ChangeSpec := { name := "coverRoutes", fn := fun _ => fun
  | [d1, d2, d3] => { results := [.lit (.bool true)], args := [d1, d2, d3] }
  | _ => none }
def coverRoutesRow : OpenClaim := { program := "ytmdofdaiepilbaagreatdoor", sum := "64ad2cccf318bf66f2c3778cd0e2136c8ecc32840bf5bafd07c5b0823d88a68d", func := "pantograph/pantographlaw18.CoverRoutes", spec := "coverRoutes", inPlace := ["internal/bytealg.IndexByteString", "internal/bytealg.IndexString", "slices.overlaps[pantograph/api.Table]"], unfollowed := true, recurses := true, named := ["unicode/utf8.first", "unicode/utf8.acceptRanges", "internal/bytealg.MaxLen"], apart := false, laid := [("unicode/utf8.acceptRanges", laid_unicode_utf8_acceptRanges), ("unicode/utf8.first", laid_unicode_utf8_first)] }
def CoverRoutesSaid : Prop := coverRoutesRow.holds Tryz.pinned (OpenSpec.ofChange coverRoutesSpec)

/-- ITS FALSE NEIGHBOUR: 'it returns false'. Refute it at one input. -/
def coverRoutesWrong : ChangeSpec := { name := "coverRoutes", fn := fun _ => fun
  | [d1, d2, d3] => { results := [.lit (.bool false)], args := [d1, d2, d3] }
  | _ => none }
def CoverRoutesWrongFalsely : Prop := coverRoutesRow.holds Tryz.pinned (OpenSpec.ofChange coverRoutesWrong)

/-- 'pantographlaw18.CoverAll': WHATEVER THE INPUT: true; the input reads as it did. -/
def coverAllSpec : ChangeSpec := { name := "coverAll", fn := fun _ => fun
  | [d1, d2] => { results := [.lit (.bool true)], args := [d1, d2] }
  | _ => none }
def coverAllRow : OpenClaim := { program := "ytmdofdaiepilbaagreatdoor", sum := "64ad2cccf318bf66f2c3778cd0e2136c8ecc32840bf5bafd07c5b0823d88a68d", func := "pantograph/pantographlaw18.CoverAll", spec := "coverAll", inPlace := ["internal/bytealg.IndexByteString", "internal/bytealg.IndexString", "slices.overlaps[pantograph/api.Table]"], unfollowed := true, recurses := true, named := ["unicode/utf8.first", "unicode/utf8.acceptRanges", "internal/bytealg.MaxLen"], apart := false, laid := [("unicode/utf8.acceptRanges", laid_unicode_utf8_acceptRanges), ("unicode/utf8.first", laid_unicode_utf8_first)] }
def CoverAllSaid : Prop := coverAllRow.holds Tryz.pinned (OpenSpec.ofChange coverAllSpec)

/-- ITS FALSE NEIGHBOUR: 'it returns false'. Refute it at one input. -/
def coverAllWrong : ChangeSpec := { name := "coverAll", fn := fun _ => fun
  | [d1, d2] => { results := [.lit (.bool false)], args := [d1, d2] }
  | _ => none }
def CoverAllWrongFalsely : Prop := coverAllRow.holds Tryz.pinned (OpenSpec.ofChange coverAllWrong)

/-- 'pantographlaw18.CoverNothing': WHATEVER THE INPUT: true; the input reads as it did. -/
def coverNothingSpec : ChangeSpec := { name := "coverNothing", fn := fun _ => fun
  | [d1, d2, d3] => { results := [.lit (.bool true)], args := [d1, d2, d3] }
  | _ => none }
def coverNothingRow : OpenClaim := { program := "ytmdofdaiepilbaagreatdoor", sum := "64ad2cccf318bf66f2c3778cd0e2136c8ecc32840bf5bafd07c5b0823d88a68d", func := "pantograph/pantographlaw18.CoverNothing", spec := "coverNothing", inPlace := ["internal/bytealg.IndexByteString", "internal/bytealg.IndexString", "slices.overlaps[pantograph/api.Table]"], unfollowed := true, recurses := true, named := ["unicode/utf8.first", "unicode/utf8.acceptRanges", "internal/bytealg.MaxLen"], apart := false, laid := [("unicode/utf8.acceptRanges", laid_unicode_utf8_acceptRanges), ("unicode/utf8.first", laid_unicode_utf8_first)] }
def CoverNothingSaid : Prop := coverNothingRow.holds Tryz.pinned (OpenSpec.ofChange coverNothingSpec)

/-- ITS FALSE NEIGHBOUR: 'it returns false'. Refute it at one input. -/
def coverNothingWrong : ChangeSpec := { name := "coverNothing", fn := fun _ => fun
  | [d1, d2, d3] => { results := [.lit (.bool false)], args := [d1, d2, d3] }
  | _ => none }
def CoverNothingWrongFalsely : Prop := coverNothingRow.holds Tryz.pinned (OpenSpec.ofChange coverNothingWrong)

/-- 'pantographlaw18.CoverRows': WHATEVER THE INPUT: true; the input reads as it did. -/
def coverRowsSpec : ChangeSpec := { name := "coverRows", fn := fun _ => fun
  | [d1, d2, d3, d4] => { results := [.lit (.bool true)], args := [d1, d2, d3, d4] }
  | _ => none }
def coverRowsRow : OpenClaim := { program := "ytmdofdaiepilbaagreatdoor", sum := "64ad2cccf318bf66f2c3778cd0e2136c8ecc32840bf5bafd07c5b0823d88a68d", func := "pantograph/pantographlaw18.CoverRows", spec := "coverRows", inPlace := ["internal/bytealg.IndexByteString", "internal/bytealg.IndexString", "slices.overlaps[pantograph/api.Table]"], unfollowed := true, recurses := true, named := ["unicode/utf8.first", "unicode/utf8.acceptRanges", "internal/bytealg.MaxLen"], apart := false, laid := [("unicode/utf8.acceptRanges", laid_unicode_utf8_acceptRanges), ("unicode/utf8.first", laid_unicode_utf8_first)] }
def CoverRowsSaid : Prop := coverRowsRow.holds Tryz.pinned (OpenSpec.ofChange coverRowsSpec)

/-- ITS FALSE NEIGHBOUR: 'it returns false'. Refute it at one input. -/
def coverRowsWrong : ChangeSpec := { name := "coverRows", fn := fun _ => fun
  | [d1, d2, d3, d4] => { results := [.lit (.bool false)], args := [d1, d2, d3, d4] }
  | _ => none }
def CoverRowsWrongFalsely : Prop := coverRowsRow.holds Tryz.pinned (OpenSpec.ofChange coverRowsWrong)

/- THE SECOND FORM. 'bulk': how many values and letters a reading holds, each counted each time it is reached (what is shared counts as often as it is met; a slice's spare places count too). A statement '..UptoSaid' is the law's where the arguments, and the package variables that the reading takes, are together of bulk at most 1048576: NARROWER than '..Said'. Prove '..Said' where nothing that the law and all that it calls make is longer than what came in: it says more and counts as full. Else prove '..UptoSaid'. A law counts once. -/
mutual
def uptoBulk {H : Type} : DataW H → Nat
  | .lit (.string bytes) => bytes.length + 1
  | .lit _ => 1
  | .nil => 1
  | .ptr d => uptoBulk d + 1
  | .slice elems spare => uptoBulkAll elems + uptoBulkAll spare + 1
  | .agg parts => uptoBulkAll parts + 1
  | .iface _ d => uptoBulk d + 1
  | .map entries => uptoBulkEntries entries + 1
  | .held _ => 1
def uptoBulkAll {H : Type} : List (DataW H) → Nat
  | [] => 0
  | d :: r => uptoBulk d + uptoBulkAll r
def uptoBulkEntries {H : Type} : List (Lit × DataW H) → Nat
  | [] => 0
  | x :: r => uptoBulkEntry x + uptoBulkEntries r
def uptoBulkEntry {H : Type} : Lit × DataW H → Nat
  | (.string bytes, d) => bytes.length + uptoBulk d + 1
  | (_, d) => uptoBulk d + 1
 end
def uptoSmall : (H : Type) → List (DataW H) → Bool := fun _ ds => decide (uptoBulkAll ds ≤ 1048576)
def OpenSpec.upto (s : _root_.Go.ChangeSpec) : _root_.Go.OpenSpec := { _root_.Go.OpenSpec.ofChange s with cond := some uptoSmall }

/-- 'pantographlaw18.CoverRoutes', WHERE WHAT IT READS IS OF BULK AT MOST 1048576: true; the input reads as it did. -/
def coverRoutesUptoRow : OpenClaim := { program := "ytmdofdaiepilbaagreatdoor", sum := "64ad2cccf318bf66f2c3778cd0e2136c8ecc32840bf5bafd07c5b0823d88a68d", func := "pantograph/pantographlaw18.CoverRoutes", spec := "coverRoutes", inPlace := ["internal/bytealg.IndexByteString", "internal/bytealg.IndexString", "slices.overlaps[pantograph/api.Table]"], unfollowed := true, recurses := true, named := ["unicode/utf8.first", "unicode/utf8.acceptRanges", "internal/bytealg.MaxLen"], apart := false, laid := [("unicode/utf8.acceptRanges", laid_unicode_utf8_acceptRanges), ("unicode/utf8.first", laid_unicode_utf8_first)], narrowed := true }
def CoverRoutesUptoSaid : Prop := coverRoutesUptoRow.holds Tryz.pinned (OpenSpec.upto coverRoutesSpec)

/-- 'pantographlaw18.CoverAll', WHERE WHAT IT READS IS OF BULK AT MOST 1048576: true; the input reads as it did. -/
def coverAllUptoRow : OpenClaim := { program := "ytmdofdaiepilbaagreatdoor", sum := "64ad2cccf318bf66f2c3778cd0e2136c8ecc32840bf5bafd07c5b0823d88a68d", func := "pantograph/pantographlaw18.CoverAll", spec := "coverAll", inPlace := ["internal/bytealg.IndexByteString", "internal/bytealg.IndexString", "slices.overlaps[pantograph/api.Table]"], unfollowed := true, recurses := true, named := ["unicode/utf8.first", "unicode/utf8.acceptRanges", "internal/bytealg.MaxLen"], apart := false, laid := [("unicode/utf8.acceptRanges", laid_unicode_utf8_acceptRanges), ("unicode/utf8.first", laid_unicode_utf8_first)], narrowed := true }
def CoverAllUptoSaid : Prop := coverAllUptoRow.holds Tryz.pinned (OpenSpec.upto coverAllSpec)

/-- 'pantographlaw18.CoverNothing', WHERE WHAT IT READS IS OF BULK AT MOST 1048576: true; the input reads as it did. -/
def coverNothingUptoRow : OpenClaim := { program := "ytmdofdaiepilbaagreatdoor", sum := "64ad2cccf318bf66f2c3778cd0e2136c8ecc32840bf5bafd07c5b0823d88a68d", func := "pantograph/pantographlaw18.CoverNothing", spec := "coverNothing", inPlace := ["internal/bytealg.IndexByteString", "internal/bytealg.IndexString", "slices.overlaps[pantograph/api.Table]"], unfollowed := true, recurses := true, named := ["unicode/utf8.first", "unicode/utf8.acceptRanges", "internal/bytealg.MaxLen"], apart := false, laid := [("unicode/utf8.acceptRanges", laid_unicode_utf8_acceptRanges), ("unicode/utf8.first", laid_unicode_utf8_first)], narrowed := true }
def CoverNothingUptoSaid : Prop := coverNothingUptoRow.holds Tryz.pinned (OpenSpec.upto coverNothingSpec)

/-- 'pantographlaw18.CoverRows', WHERE WHAT IT READS IS OF BULK AT MOST 1048576: true; the input reads as it did. -/
def coverRowsUptoRow : OpenClaim := { program := "ytmdofdaiepilbaagreatdoor", sum := "64ad2cccf318bf66f2c3778cd0e2136c8ecc32840bf5bafd07c5b0823d88a68d", func := "pantograph/pantographlaw18.CoverRows", spec := "coverRows", inPlace := ["internal/bytealg.IndexByteString", "internal/bytealg.IndexString", "slices.overlaps[pantograph/api.Table]"], unfollowed := true, recurses := true, named := ["unicode/utf8.first", "unicode/utf8.acceptRanges", "internal/bytealg.MaxLen"], apart := false, laid := [("unicode/utf8.acceptRanges", laid_unicode_utf8_acceptRanges), ("unicode/utf8.first", laid_unicode_utf8_first)], narrowed := true }
def CoverRowsUptoSaid : Prop := coverRowsUptoRow.holds Tryz.pinned (OpenSpec.upto coverRowsSpec)

end Rows
end Go.Proofs.YtmdofdaiepilbaaGreatDoor
