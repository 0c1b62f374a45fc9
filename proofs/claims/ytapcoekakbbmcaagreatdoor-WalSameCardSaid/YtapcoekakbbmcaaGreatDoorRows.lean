/-
  NARROWER THAN 'FOR EVERY INPUT', by the rows' own cells (each row's printed sentence says how): WalOf: laid · WalReads: laid · WalEmpty: laid · WalBehind: laid · WalWrites: laid · WalSame: laid · WalJoins: laid.
  DERIVED. THE GIVEN ROWS OF THIS SEAT. 7 by the template 'for every input the law returns true; each argument reads behind the call as it read before'; 0 by the template 'total and deterministic' (their statements: YtapcoekakbbmcaaGreatDoorTotals.lean).
  GIVEN WITH THE SEED: the statements are not yours to turn. If you find one false, say at which input.
  Laid BY PROGRAM, IN A SANDBOX (cutbox-rows.mjs): the forced cells as the released guide's own fill.sh prints them over the translation a086ea1263f49ae4… (all of the seat's roots in one cut). By AI agents, Wed Nov 11 2026. No macro, syntax, notation, axiom, sorry.
-/
import Derived.Test.YtapcoekakbbmcaaGreatDoorChecked
import GoSem.PinnedTables
import GoSem.Claim
import GoSem.ClaimJoined
import GoSem.ClaimMapViews
import Derived.JoinedTies
import Derived.KernelRfl
namespace Go.Proofs.YtapcoekakbbmcaaGreatDoor
/- THE CELL 'sum', in the pinned program and in every row, IS THE sha256 OF THE DUMP (.gsa) THAT YtapcoekakbbmcaaGreatDoorProg.lean LOADS. Nothing in Lean hashes anything: it is a label: what it is worth is what the hold of that sum in a sandbox is worth. -/
noncomputable def Tryz.pinned : Pinned := { name := "ytapcoekakbbmcaagreatdoor", sum := "a086ea1263f49ae484fae708ded47e5f82072d375f0254be35552e546c16332c", checked := Tryz.checked }
namespace Rows
def none {H : Type} : Left H := { results := [], args := [] }

/- WHAT THE LISTED PACKAGE-LEVEL VARIABLES READ AS WHEN THE CALL BEGINS. Each datum BY PROGRAM (the guide's laid-datum.mjs) off the statement by which the dump's own 'gosem.cut.vars' lays the variable. In a bare row this is a premise. The card (YtapcoekakbbmcaaGreatDoorCards.lean) ties it to the program's text. -/
def laid_unicode_utf8_acceptRanges {H : Type} : DataW H := .agg [.agg [.lit (.int .u8 128), .lit (.int .u8 191)], .agg [.lit (.int .u8 160), .lit (.int .u8 191)], .agg [.lit (.int .u8 128), .lit (.int .u8 159)], .agg [.lit (.int .u8 144), .lit (.int .u8 191)], .agg [.lit (.int .u8 128), .lit (.int .u8 143)], .agg [.lit (.int .u8 0), .lit (.int .u8 0)], .agg [.lit (.int .u8 0), .lit (.int .u8 0)], .agg [.lit (.int .u8 0), .lit (.int .u8 0)], .agg [.lit (.int .u8 0), .lit (.int .u8 0)], .agg [.lit (.int .u8 0), .lit (.int .u8 0)], .agg [.lit (.int .u8 0), .lit (.int .u8 0)], .agg [.lit (.int .u8 0), .lit (.int .u8 0)], .agg [.lit (.int .u8 0), .lit (.int .u8 0)], .agg [.lit (.int .u8 0), .lit (.int .u8 0)], .agg [.lit (.int .u8 0), .lit (.int .u8 0)], .agg [.lit (.int .u8 0), .lit (.int .u8 0)]]
/-- One of Go's own tables, pinned by name: the form's constant. -/
def laid_unicode_utf8_first : DataW Unit := Go.Pinned.utf8First

/-- 'pantographlaw14.WalOf': WHATEVER THE INPUT: true; the input reads as it did. -/
def walOfSpec : ChangeSpec := { name := "walOf", fn := fun _ => fun
  | [d] => { results := [.lit (.bool true)], args := [d] }
  | _ => none }
def walOfRow : OpenClaim := { program := "ytapcoekakbbmcaagreatdoor", sum := "a086ea1263f49ae484fae708ded47e5f82072d375f0254be35552e546c16332c", func := "pantograph/pantographlaw14.WalOf", spec := "walOf", inPlace := ["internal/bytealg.IndexByteString", "internal/bytealg.IndexString", "internal/abi.NoEscape", "slices.overlaps[pantograph/api.Table]"], unfollowed := true, recurses := true, named := ["internal/bytealg.MaxLen", "unicode/utf8.first", "unicode/utf8.acceptRanges"], apart := false, laid := [("unicode/utf8.acceptRanges", laid_unicode_utf8_acceptRanges), ("unicode/utf8.first", laid_unicode_utf8_first)] }
def WalOfSaid : Prop := walOfRow.holds Tryz.pinned (OpenSpec.ofChange walOfSpec)

/-- ITS FALSE NEIGHBOUR: 'it returns false'. Refute it at one input. -/
def walOfWrong : ChangeSpec := { name := "walOf", fn := fun _ => fun
  | [d] => { results := [.lit (.bool false)], args := [d] }
  | _ => none }
def WalOfWrongFalsely : Prop := walOfRow.holds Tryz.pinned (OpenSpec.ofChange walOfWrong)

/-- 'pantographlaw14.WalReads': WHATEVER THE INPUT: true; the input reads as it did. -/
def walReadsSpec : ChangeSpec := { name := "walReads", fn := fun _ => fun
  | [d1, d2] => { results := [.lit (.bool true)], args := [d1, d2] }
  | _ => none }
def walReadsRow : OpenClaim := { program := "ytapcoekakbbmcaagreatdoor", sum := "a086ea1263f49ae484fae708ded47e5f82072d375f0254be35552e546c16332c", func := "pantograph/pantographlaw14.WalReads", spec := "walReads", inPlace := ["internal/bytealg.IndexByteString", "internal/bytealg.IndexString", "slices.overlaps[pantograph/api.Table]", "internal/abi.NoEscape"], unfollowed := true, recurses := true, named := ["unicode/utf8.first", "unicode/utf8.acceptRanges", "internal/bytealg.MaxLen"], apart := false, laid := [("unicode/utf8.acceptRanges", laid_unicode_utf8_acceptRanges), ("unicode/utf8.first", laid_unicode_utf8_first)] }
def WalReadsSaid : Prop := walReadsRow.holds Tryz.pinned (OpenSpec.ofChange walReadsSpec)

/-- ITS FALSE NEIGHBOUR: 'it returns false'. Refute it at one input. -/
def walReadsWrong : ChangeSpec := { name := "walReads", fn := fun _ => fun
  | [d1, d2] => { results := [.lit (.bool false)], args := [d1, d2] }
  | _ => none }
def WalReadsWrongFalsely : Prop := walReadsRow.holds Tryz.pinned (OpenSpec.ofChange walReadsWrong)

/-- 'pantographlaw14.WalEmpty': WHATEVER THE INPUT: true; the input reads as it did. -/
def walEmptySpec : ChangeSpec := { name := "walEmpty", fn := fun _ => fun
  | [d1, d2] => { results := [.lit (.bool true)], args := [d1, d2] }
  | _ => none }
def walEmptyRow : OpenClaim := { program := "ytapcoekakbbmcaagreatdoor", sum := "a086ea1263f49ae484fae708ded47e5f82072d375f0254be35552e546c16332c", func := "pantograph/pantographlaw14.WalEmpty", spec := "walEmpty", inPlace := ["internal/bytealg.IndexByteString", "internal/bytealg.IndexString", "internal/abi.NoEscape", "slices.overlaps[pantograph/api.Table]"], unfollowed := true, recurses := true, named := ["internal/bytealg.MaxLen", "unicode/utf8.first", "unicode/utf8.acceptRanges"], apart := false, laid := [("unicode/utf8.acceptRanges", laid_unicode_utf8_acceptRanges), ("unicode/utf8.first", laid_unicode_utf8_first)] }
def WalEmptySaid : Prop := walEmptyRow.holds Tryz.pinned (OpenSpec.ofChange walEmptySpec)

/-- ITS FALSE NEIGHBOUR: 'it returns false'. Refute it at one input. -/
def walEmptyWrong : ChangeSpec := { name := "walEmpty", fn := fun _ => fun
  | [d1, d2] => { results := [.lit (.bool false)], args := [d1, d2] }
  | _ => none }
def WalEmptyWrongFalsely : Prop := walEmptyRow.holds Tryz.pinned (OpenSpec.ofChange walEmptyWrong)

/-- 'pantographlaw14.WalBehind': WHATEVER THE INPUT: true; the input reads as it did. -/
def walBehindSpec : ChangeSpec := { name := "walBehind", fn := fun _ => fun
  | [d1, d2, d3] => { results := [.lit (.bool true)], args := [d1, d2, d3] }
  | _ => none }
def walBehindRow : OpenClaim := { program := "ytapcoekakbbmcaagreatdoor", sum := "a086ea1263f49ae484fae708ded47e5f82072d375f0254be35552e546c16332c", func := "pantograph/pantographlaw14.WalBehind", spec := "walBehind", inPlace := ["internal/bytealg.IndexByteString", "internal/bytealg.IndexString", "slices.overlaps[pantograph/api.Table]", "internal/abi.NoEscape"], unfollowed := true, recurses := true, named := ["unicode/utf8.first", "unicode/utf8.acceptRanges", "internal/bytealg.MaxLen"], apart := false, laid := [("unicode/utf8.acceptRanges", laid_unicode_utf8_acceptRanges), ("unicode/utf8.first", laid_unicode_utf8_first)] }
def WalBehindSaid : Prop := walBehindRow.holds Tryz.pinned (OpenSpec.ofChange walBehindSpec)

/-- ITS FALSE NEIGHBOUR: 'it returns false'. Refute it at one input. -/
def walBehindWrong : ChangeSpec := { name := "walBehind", fn := fun _ => fun
  | [d1, d2, d3] => { results := [.lit (.bool false)], args := [d1, d2, d3] }
  | _ => none }
def WalBehindWrongFalsely : Prop := walBehindRow.holds Tryz.pinned (OpenSpec.ofChange walBehindWrong)

/-- 'pantographlaw14.WalWrites': WHATEVER THE INPUT: true; the input reads as it did. -/
def walWritesSpec : ChangeSpec := { name := "walWrites", fn := fun _ => fun
  | [d1, d2, d3, d4] => { results := [.lit (.bool true)], args := [d1, d2, d3, d4] }
  | _ => none }
def walWritesRow : OpenClaim := { program := "ytapcoekakbbmcaagreatdoor", sum := "a086ea1263f49ae484fae708ded47e5f82072d375f0254be35552e546c16332c", func := "pantograph/pantographlaw14.WalWrites", spec := "walWrites", inPlace := ["internal/bytealg.IndexByteString", "internal/bytealg.IndexString", "internal/abi.NoEscape", "slices.overlaps[pantograph/api.Table]"], unfollowed := true, recurses := true, named := ["internal/bytealg.MaxLen", "unicode/utf8.first", "unicode/utf8.acceptRanges"], apart := false, laid := [("unicode/utf8.acceptRanges", laid_unicode_utf8_acceptRanges), ("unicode/utf8.first", laid_unicode_utf8_first)] }
def WalWritesSaid : Prop := walWritesRow.holds Tryz.pinned (OpenSpec.ofChange walWritesSpec)

/-- ITS FALSE NEIGHBOUR: 'it returns false'. Refute it at one input. -/
def walWritesWrong : ChangeSpec := { name := "walWrites", fn := fun _ => fun
  | [d1, d2, d3, d4] => { results := [.lit (.bool false)], args := [d1, d2, d3, d4] }
  | _ => none }
def WalWritesWrongFalsely : Prop := walWritesRow.holds Tryz.pinned (OpenSpec.ofChange walWritesWrong)

/-- 'pantographlaw14.WalSame': WHATEVER THE INPUT: true; the input reads as it did. -/
def walSameSpec : ChangeSpec := { name := "walSame", fn := fun _ => fun
  | [d1, d2] => { results := [.lit (.bool true)], args := [d1, d2] }
  | _ => none }
def walSameRow : OpenClaim := { program := "ytapcoekakbbmcaagreatdoor", sum := "a086ea1263f49ae484fae708ded47e5f82072d375f0254be35552e546c16332c", func := "pantograph/pantographlaw14.WalSame", spec := "walSame", inPlace := ["internal/bytealg.IndexByteString", "internal/bytealg.IndexString", "internal/abi.NoEscape", "slices.overlaps[pantograph/api.Table]"], unfollowed := true, recurses := true, named := ["internal/bytealg.MaxLen", "unicode/utf8.first", "unicode/utf8.acceptRanges"], apart := false, laid := [("unicode/utf8.acceptRanges", laid_unicode_utf8_acceptRanges), ("unicode/utf8.first", laid_unicode_utf8_first)] }
def WalSameSaid : Prop := walSameRow.holds Tryz.pinned (OpenSpec.ofChange walSameSpec)

/-- ITS FALSE NEIGHBOUR: 'it returns false'. Refute it at one input. -/
def walSameWrong : ChangeSpec := { name := "walSame", fn := fun _ => fun
  | [d1, d2] => { results := [.lit (.bool false)], args := [d1, d2] }
  | _ => none }
def WalSameWrongFalsely : Prop := walSameRow.holds Tryz.pinned (OpenSpec.ofChange walSameWrong)

/-- 'pantographlaw14.WalJoins': WHATEVER THE INPUT: true; the input reads as it did. -/
def walJoinsSpec : ChangeSpec := { name := "walJoins", fn := fun _ => fun
  | [d1, d2, d3] => { results := [.lit (.bool true)], args := [d1, d2, d3] }
  | _ => none }
def walJoinsRow : OpenClaim := { program := "ytapcoekakbbmcaagreatdoor", sum := "a086ea1263f49ae484fae708ded47e5f82072d375f0254be35552e546c16332c", func := "pantograph/pantographlaw14.WalJoins", spec := "walJoins", inPlace := ["internal/bytealg.IndexByteString", "internal/bytealg.IndexString", "slices.overlaps[pantograph/api.Table]", "internal/abi.NoEscape"], unfollowed := true, recurses := true, named := ["unicode/utf8.first", "unicode/utf8.acceptRanges", "internal/bytealg.MaxLen"], apart := false, laid := [("unicode/utf8.acceptRanges", laid_unicode_utf8_acceptRanges), ("unicode/utf8.first", laid_unicode_utf8_first)] }
def WalJoinsSaid : Prop := walJoinsRow.holds Tryz.pinned (OpenSpec.ofChange walJoinsSpec)

/-- ITS FALSE NEIGHBOUR: 'it returns false'. Refute it at one input. -/
def walJoinsWrong : ChangeSpec := { name := "walJoins", fn := fun _ => fun
  | [d1, d2, d3] => { results := [.lit (.bool false)], args := [d1, d2, d3] }
  | _ => none }
def WalJoinsWrongFalsely : Prop := walJoinsRow.holds Tryz.pinned (OpenSpec.ofChange walJoinsWrong)

/- THE SECOND FORM. 'bulk': how many values and letters a reading holds, each counted each time it is reached (what is shared counts as often as it is met; a slice's spare places count too). A statement '..UptoSaid' is the law's where the arguments, and the package variables that the reading takes, are together of bulk at most 1048576: NARROWER than '..Said'. Prove '..Said' where nothing that the law and all that it calls make is longer than what came in: it says more and counts as full. Else prove '..UptoSaid'. A law counts once. -/
mutual
def uptoBulk {H : Type} : DataW H → Nat
  | .lit (.string bytes) => bytes.length + 1
  | .lit _ => 1
  | .nil => 1
  | .ptr d => uptoBulk d + 1
  | .slice elems spare => uptoBulkAll elems + uptoBulkAll spare + 1
  | .agg parts => uptoBulkAll parts + 1
  | .iface _ d => uptoBulk d + 1
  | .map entries => uptoBulkEntries entries + 1
  | .held _ => 1
def uptoBulkAll {H : Type} : List (DataW H) → Nat
  | [] => 0
  | d :: r => uptoBulk d + uptoBulkAll r
def uptoBulkEntries {H : Type} : List (Lit × DataW H) → Nat
  | [] => 0
  | x :: r => uptoBulkEntry x + uptoBulkEntries r
def uptoBulkEntry {H : Type} : Lit × DataW H → Nat
  | (.string bytes, d) => bytes.length + uptoBulk d + 1
  | (_, d) => uptoBulk d + 1
 end
def uptoSmall : (H : Type) → List (DataW H) → Bool := fun _ ds => decide (uptoBulkAll ds ≤ 1048576)
def OpenSpec.upto (s : _root_.Go.ChangeSpec) : _root_.Go.OpenSpec := { _root_.Go.OpenSpec.ofChange s with cond := some uptoSmall }

/-- 'pantographlaw14.WalOf', WHERE WHAT IT READS IS OF BULK AT MOST 1048576: true; the input reads as it did. -/
def walOfUptoRow : OpenClaim := { program := "ytapcoekakbbmcaagreatdoor", sum := "a086ea1263f49ae484fae708ded47e5f82072d375f0254be35552e546c16332c", func := "pantograph/pantographlaw14.WalOf", spec := "walOf", inPlace := ["internal/bytealg.IndexByteString", "internal/bytealg.IndexString", "internal/abi.NoEscape", "slices.overlaps[pantograph/api.Table]"], unfollowed := true, recurses := true, named := ["internal/bytealg.MaxLen", "unicode/utf8.first", "unicode/utf8.acceptRanges"], apart := false, laid := [("unicode/utf8.acceptRanges", laid_unicode_utf8_acceptRanges), ("unicode/utf8.first", laid_unicode_utf8_first)], narrowed := true }
def WalOfUptoSaid : Prop := walOfUptoRow.holds Tryz.pinned (OpenSpec.upto walOfSpec)

/-- 'pantographlaw14.WalReads', WHERE WHAT IT READS IS OF BULK AT MOST 1048576: true; the input reads as it did. -/
def walReadsUptoRow : OpenClaim := { program := "ytapcoekakbbmcaagreatdoor", sum := "a086ea1263f49ae484fae708ded47e5f82072d375f0254be35552e546c16332c", func := "pantograph/pantographlaw14.WalReads", spec := "walReads", inPlace := ["internal/bytealg.IndexByteString", "internal/bytealg.IndexString", "slices.overlaps[pantograph/api.Table]", "internal/abi.NoEscape"], unfollowed := true, recurses := true, named := ["unicode/utf8.first", "unicode/utf8.acceptRanges", "internal/bytealg.MaxLen"], apart := false, laid := [("unicode/utf8.acceptRanges", laid_unicode_utf8_acceptRanges), ("unicode/utf8.first", laid_unicode_utf8_first)], narrowed := true }
def WalReadsUptoSaid : Prop := walReadsUptoRow.holds Tryz.pinned (OpenSpec.upto walReadsSpec)

/-- 'pantographlaw14.WalEmpty', WHERE WHAT IT READS IS OF BULK AT MOST 1048576: true; the input reads as it did. -/
def walEmptyUptoRow : OpenClaim := { program := "ytapcoekakbbmcaagreatdoor", sum := "a086ea1263f49ae484fae708ded47e5f82072d375f0254be35552e546c16332c", func := "pantograph/pantographlaw14.WalEmpty", spec := "walEmpty", inPlace := ["internal/bytealg.IndexByteString", "internal/bytealg.IndexString", "internal/abi.NoEscape", "slices.overlaps[pantograph/api.Table]"], unfollowed := true, recurses := true, named := ["internal/bytealg.MaxLen", "unicode/utf8.first", "unicode/utf8.acceptRanges"], apart := false, laid := [("unicode/utf8.acceptRanges", laid_unicode_utf8_acceptRanges), ("unicode/utf8.first", laid_unicode_utf8_first)], narrowed := true }
def WalEmptyUptoSaid : Prop := walEmptyUptoRow.holds Tryz.pinned (OpenSpec.upto walEmptySpec)

/-- 'pantographlaw14.WalBehind', WHERE WHAT IT READS IS OF BULK AT MOST 1048576: true; the input reads as it did. -/
def walBehindUptoRow : OpenClaim := { program := "ytapcoekakbbmcaagreatdoor", sum := "a086ea1263f49ae484fae708ded47e5f82072d375f0254be35552e546c16332c", func := "pantograph/pantographlaw14.WalBehind", spec := "walBehind", inPlace := ["internal/bytealg.IndexByteString", "internal/bytealg.IndexString", "slices.overlaps[pantograph/api.Table]", "internal/abi.NoEscape"], unfollowed := true, recurses := true, named := ["unicode/utf8.first", "unicode/utf8.acceptRanges", "internal/bytealg.MaxLen"], apart := false, laid := [("unicode/utf8.acceptRanges", laid_unicode_utf8_acceptRanges), ("unicode/utf8.first", laid_unicode_utf8_first)], narrowed := true }
def WalBehindUptoSaid : Prop := walBehindUptoRow.holds Tryz.pinned (OpenSpec.upto walBehindSpec)

/-- 'pantographlaw14.WalWrites', WHERE WHAT IT READS IS OF BULK AT MOST 1048576: true; the input reads as it did. -/
def walWritesUptoRow : OpenClaim := { program := "ytapcoekakbbmcaagreatdoor", sum := "a086ea1263f49ae484fae708ded47e5f82072d375f0254be35552e546c16332c", func := "pantograph/pantographlaw14.WalWrites", spec := "walWrites", inPlace := ["internal/bytealg.IndexByteString", "internal/bytealg.IndexString", "internal/abi.NoEscape", "slices.overlaps[pantograph/api.Table]"], unfollowed := true, recurses := true, named := ["internal/bytealg.MaxLen", "unicode/utf8.first", "unicode/utf8.acceptRanges"], apart := false, laid := [("unicode/utf8.acceptRanges", laid_unicode_utf8_acceptRanges), ("unicode/utf8.first", laid_unicode_utf8_first)], narrowed := true }
def WalWritesUptoSaid : Prop := walWritesUptoRow.holds Tryz.pinned (OpenSpec.upto walWritesSpec)

/-- 'pantographlaw14.WalSame', WHERE WHAT IT READS IS OF BULK AT MOST 1048576: true; the input reads as it did. -/
def walSameUptoRow : OpenClaim := { program := "ytapcoekakbbmcaagreatdoor", sum := "a086ea1263f49ae484fae708ded47e5f82072d375f0254be35552e546c16332c", func := "pantograph/pantographlaw14.WalSame", spec := "walSame", inPlace := ["internal/bytealg.IndexByteString", "internal/bytealg.IndexString", "internal/abi.NoEscape", "slices.overlaps[pantograph/api.Table]"], unfollowed := true, recurses := true, named := ["internal/bytealg.MaxLen", "unicode/utf8.first", "unicode/utf8.acceptRanges"], apart := false, laid := [("unicode/utf8.acceptRanges", laid_unicode_utf8_acceptRanges), ("unicode/utf8.first", laid_unicode_utf8_first)], narrowed := true }
def WalSameUptoSaid : Prop := walSameUptoRow.holds Tryz.pinned (OpenSpec.upto walSameSpec)

/-- 'pantographlaw14.WalJoins', WHERE WHAT IT READS IS OF BULK AT MOST 1048576: true; the input reads as it did. -/
def walJoinsUptoRow : OpenClaim := { program := "ytapcoekakbbmcaagreatdoor", sum := "a086ea1263f49ae484fae708ded47e5f82072d375f0254be35552e546c16332c", func := "pantograph/pantographlaw14.WalJoins", spec := "walJoins", inPlace := ["internal/bytealg.IndexByteString", "internal/bytealg.IndexString", "slices.overlaps[pantograph/api.Table]", "internal/abi.NoEscape"], unfollowed := true, recurses := true, named := ["unicode/utf8.first", "unicode/utf8.acceptRanges", "internal/bytealg.MaxLen"], apart := false, laid := [("unicode/utf8.acceptRanges", laid_unicode_utf8_acceptRanges), ("unicode/utf8.first", laid_unicode_utf8_first)], narrowed := true }
def WalJoinsUptoSaid : Prop := walJoinsUptoRow.holds Tryz.pinned (OpenSpec.upto walJoinsSpec)

end Rows
end Go.Proofs.YtapcoekakbbmcaaGreatDoor
