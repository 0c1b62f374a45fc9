/-
  No cell of these rows narrows 'for every input' (looked for: loops, veiled, ifaces, maps, wideKeys, modest, calm, conditions, laid).
  DERIVED. THE GIVEN ROWS OF THIS SEAT. 12 by the template 'for every input the law returns true; each argument reads behind the call as it read before'; 0 by the template 'total and deterministic' (their statements: YtjkgafijifkfcaaTotals.lean).
  GIVEN WITH THE SEED: the statements are not yours to turn. If you find one false, say at which input.
  Laid BY PROGRAM, IN A SANDBOX (cutbox-rows.mjs): the forced cells as the released guide's own fill.sh prints them over the translation 7018561d3644c549… (all of the seat's roots in one cut). By AI agents, Wed Nov 11 2026. No macro, syntax, notation, axiom, sorry.
-/
import Derived.Test.YtjkgafijifkfcaaChecked
import GoSem.Claim
import GoSem.ClaimJoined
import GoSem.ClaimMapViews
import Derived.JoinedTies
import Derived.KernelRfl
namespace Go.Proofs.Ytjkgafijifkfcaa
/- THE CELL 'sum', in the pinned program and in every row, IS THE sha256 OF THE DUMP (.gsa) THAT YtjkgafijifkfcaaProg.lean LOADS. Nothing in Lean hashes anything: it is a label: what it is worth is what the hold of that sum in a sandbox is worth. -/
noncomputable def Try.pinned : Pinned := { name := "ytjkgafijifkfcaa", sum := "7018561d3644c549f8fb333caeb99bc0a3d904033d166577c5a70125fd76c5d3", checked := Try.checked }
namespace Rows
def none {H : Type} : Left H := { results := [], args := [] }

/-- 'pantographlaw02.CrcSums': WHATEVER THE INPUT: true; the input reads as it did. -/
def crcSumsSpec : ChangeSpec := { name := "crcSums", fn := fun _ => fun
  | [d1, d2, d3] => { results := [.lit (.bool true)], args := [d1, d2, d3] }
  | _ => none }
def crcSumsRow : OpenClaim := { program := "ytjkgafijifkfcaa", sum := "7018561d3644c549f8fb333caeb99bc0a3d904033d166577c5a70125fd76c5d3", func := "pantograph/pantographlaw02.CrcSums", spec := "crcSums", apart := false }
def CrcSumsSaid : Prop := crcSumsRow.holds Try.pinned (OpenSpec.ofChange crcSumsSpec)

/-- ITS FALSE NEIGHBOUR: 'it returns false'. Refute it at one input. -/
def crcSumsWrong : ChangeSpec := { name := "crcSums", fn := fun _ => fun
  | [d1, d2, d3] => { results := [.lit (.bool false)], args := [d1, d2, d3] }
  | _ => none }
def CrcSumsWrongFalsely : Prop := crcSumsRow.holds Try.pinned (OpenSpec.ofChange crcSumsWrong)

/-- 'pantographlaw02.CrcLinear': WHATEVER THE INPUT: true; the input reads as it did. -/
def crcLinearSpec : ChangeSpec := { name := "crcLinear", fn := fun _ => fun
  | [d1, d2, d3] => { results := [.lit (.bool true)], args := [d1, d2, d3] }
  | _ => none }
def crcLinearRow : OpenClaim := { program := "ytjkgafijifkfcaa", sum := "7018561d3644c549f8fb333caeb99bc0a3d904033d166577c5a70125fd76c5d3", func := "pantograph/pantographlaw02.CrcLinear", spec := "crcLinear", apart := false }
def CrcLinearSaid : Prop := crcLinearRow.holds Try.pinned (OpenSpec.ofChange crcLinearSpec)

/-- ITS FALSE NEIGHBOUR: 'it returns false'. Refute it at one input. -/
def crcLinearWrong : ChangeSpec := { name := "crcLinear", fn := fun _ => fun
  | [d1, d2, d3] => { results := [.lit (.bool false)], args := [d1, d2, d3] }
  | _ => none }
def CrcLinearWrongFalsely : Prop := crcLinearRow.holds Try.pinned (OpenSpec.ofChange crcLinearWrong)

/-- 'pantographlaw02.CrcMore': WHATEVER THE INPUT: true; the input reads as it did. -/
def crcMoreSpec : ChangeSpec := { name := "crcMore", fn := fun _ => fun
  | [d] => { results := [.lit (.bool true)], args := [d] }
  | _ => none }
def crcMoreRow : OpenClaim := { program := "ytjkgafijifkfcaa", sum := "7018561d3644c549f8fb333caeb99bc0a3d904033d166577c5a70125fd76c5d3", func := "pantograph/pantographlaw02.CrcMore", spec := "crcMore", apart := false }
def CrcMoreSaid : Prop := crcMoreRow.holds Try.pinned (OpenSpec.ofChange crcMoreSpec)

/-- ITS FALSE NEIGHBOUR: 'it returns false'. Refute it at one input. -/
def crcMoreWrong : ChangeSpec := { name := "crcMore", fn := fun _ => fun
  | [d] => { results := [.lit (.bool false)], args := [d] }
  | _ => none }
def CrcMoreWrongFalsely : Prop := crcMoreRow.holds Try.pinned (OpenSpec.ofChange crcMoreWrong)

/-- 'pantographlaw12.TxbufOwns': WHATEVER THE INPUT: true; the input reads as it did. -/
def txbufOwnsSpec : ChangeSpec := { name := "txbufOwns", fn := fun _ => fun
  | [d] => { results := [.lit (.bool true)], args := [d] }
  | _ => none }
def txbufOwnsRow : OpenClaim := { program := "ytjkgafijifkfcaa", sum := "7018561d3644c549f8fb333caeb99bc0a3d904033d166577c5a70125fd76c5d3", func := "pantograph/pantographlaw12.TxbufOwns", spec := "txbufOwns", unfollowed := true, recurses := true, apart := false }
def TxbufOwnsSaid : Prop := txbufOwnsRow.holds Try.pinned (OpenSpec.ofChange txbufOwnsSpec)

/-- ITS FALSE NEIGHBOUR: 'it returns false'. Refute it at one input. -/
def txbufOwnsWrong : ChangeSpec := { name := "txbufOwns", fn := fun _ => fun
  | [d] => { results := [.lit (.bool false)], args := [d] }
  | _ => none }
def TxbufOwnsWrongFalsely : Prop := txbufOwnsRow.holds Try.pinned (OpenSpec.ofChange txbufOwnsWrong)

/-- 'pantographlaw12.TxbufHolds': WHATEVER THE INPUT: true; the input reads as it did. -/
def txbufHoldsSpec : ChangeSpec := { name := "txbufHolds", fn := fun _ => fun
  | [d1, d2, d3] => { results := [.lit (.bool true)], args := [d1, d2, d3] }
  | _ => none }
def txbufHoldsRow : OpenClaim := { program := "ytjkgafijifkfcaa", sum := "7018561d3644c549f8fb333caeb99bc0a3d904033d166577c5a70125fd76c5d3", func := "pantograph/pantographlaw12.TxbufHolds", spec := "txbufHolds", unfollowed := true, recurses := true, apart := false }
def TxbufHoldsSaid : Prop := txbufHoldsRow.holds Try.pinned (OpenSpec.ofChange txbufHoldsSpec)

/-- ITS FALSE NEIGHBOUR: 'it returns false'. Refute it at one input. -/
def txbufHoldsWrong : ChangeSpec := { name := "txbufHolds", fn := fun _ => fun
  | [d1, d2, d3] => { results := [.lit (.bool false)], args := [d1, d2, d3] }
  | _ => none }
def TxbufHoldsWrongFalsely : Prop := txbufHoldsRow.holds Try.pinned (OpenSpec.ofChange txbufHoldsWrong)

/-- 'pantographlaw12.TxbufAborts': WHATEVER THE INPUT: true; the input reads as it did. -/
def txbufAbortsSpec : ChangeSpec := { name := "txbufAborts", fn := fun _ => fun
  | [d1, d2, d3] => { results := [.lit (.bool true)], args := [d1, d2, d3] }
  | _ => none }
def txbufAbortsRow : OpenClaim := { program := "ytjkgafijifkfcaa", sum := "7018561d3644c549f8fb333caeb99bc0a3d904033d166577c5a70125fd76c5d3", func := "pantograph/pantographlaw12.TxbufAborts", spec := "txbufAborts", unfollowed := true, recurses := true, apart := false }
def TxbufAbortsSaid : Prop := txbufAbortsRow.holds Try.pinned (OpenSpec.ofChange txbufAbortsSpec)

/-- ITS FALSE NEIGHBOUR: 'it returns false'. Refute it at one input. -/
def txbufAbortsWrong : ChangeSpec := { name := "txbufAborts", fn := fun _ => fun
  | [d1, d2, d3] => { results := [.lit (.bool false)], args := [d1, d2, d3] }
  | _ => none }
def TxbufAbortsWrongFalsely : Prop := txbufAbortsRow.holds Try.pinned (OpenSpec.ofChange txbufAbortsWrong)

/-- 'pantographlaw12.TxbufPlays': WHATEVER THE INPUT: true; the input reads as it did. -/
def txbufPlaysSpec : ChangeSpec := { name := "txbufPlays", fn := fun _ => fun
  | [d1, d2] => { results := [.lit (.bool true)], args := [d1, d2] }
  | _ => none }
def txbufPlaysRow : OpenClaim := { program := "ytjkgafijifkfcaa", sum := "7018561d3644c549f8fb333caeb99bc0a3d904033d166577c5a70125fd76c5d3", func := "pantograph/pantographlaw12.TxbufPlays", spec := "txbufPlays", unfollowed := true, recurses := true, apart := false }
def TxbufPlaysSaid : Prop := txbufPlaysRow.holds Try.pinned (OpenSpec.ofChange txbufPlaysSpec)

/-- ITS FALSE NEIGHBOUR: 'it returns false'. Refute it at one input. -/
def txbufPlaysWrong : ChangeSpec := { name := "txbufPlays", fn := fun _ => fun
  | [d1, d2] => { results := [.lit (.bool false)], args := [d1, d2] }
  | _ => none }
def TxbufPlaysWrongFalsely : Prop := txbufPlaysRow.holds Try.pinned (OpenSpec.ofChange txbufPlaysWrong)

/-- 'pantographlaw12.TxbufClears': WHATEVER THE INPUT: true; the input reads as it did. -/
def txbufClearsSpec : ChangeSpec := { name := "txbufClears", fn := fun _ => fun
  | [d1, d2, d3] => { results := [.lit (.bool true)], args := [d1, d2, d3] }
  | _ => none }
def txbufClearsRow : OpenClaim := { program := "ytjkgafijifkfcaa", sum := "7018561d3644c549f8fb333caeb99bc0a3d904033d166577c5a70125fd76c5d3", func := "pantograph/pantographlaw12.TxbufClears", spec := "txbufClears", unfollowed := true, recurses := true, apart := false }
def TxbufClearsSaid : Prop := txbufClearsRow.holds Try.pinned (OpenSpec.ofChange txbufClearsSpec)

/-- ITS FALSE NEIGHBOUR: 'it returns false'. Refute it at one input. -/
def txbufClearsWrong : ChangeSpec := { name := "txbufClears", fn := fun _ => fun
  | [d1, d2, d3] => { results := [.lit (.bool false)], args := [d1, d2, d3] }
  | _ => none }
def TxbufClearsWrongFalsely : Prop := txbufClearsRow.holds Try.pinned (OpenSpec.ofChange txbufClearsWrong)

/-- 'pantographlaw02.CrcPuts': WHATEVER THE INPUT: true; the input reads as it did. -/
def crcPutsSpec : ChangeSpec := { name := "crcPuts", fn := fun _ => fun
  | [d1, d2] => { results := [.lit (.bool true)], args := [d1, d2] }
  | _ => none }
def crcPutsRow : OpenClaim := { program := "ytjkgafijifkfcaa", sum := "7018561d3644c549f8fb333caeb99bc0a3d904033d166577c5a70125fd76c5d3", func := "pantograph/pantographlaw02.CrcPuts", spec := "crcPuts", apart := false }
def CrcPutsSaid : Prop := crcPutsRow.holds Try.pinned (OpenSpec.ofChange crcPutsSpec)

/-- ITS FALSE NEIGHBOUR: 'it returns false'. Refute it at one input. -/
def crcPutsWrong : ChangeSpec := { name := "crcPuts", fn := fun _ => fun
  | [d1, d2] => { results := [.lit (.bool false)], args := [d1, d2] }
  | _ => none }
def CrcPutsWrongFalsely : Prop := crcPutsRow.holds Try.pinned (OpenSpec.ofChange crcPutsWrong)

/-- 'pantographlaw02.CrcTakes': WHATEVER THE INPUT: true; the input reads as it did. -/
def crcTakesSpec : ChangeSpec := { name := "crcTakes", fn := fun _ => fun
  | [d] => { results := [.lit (.bool true)], args := [d] }
  | _ => none }
def crcTakesRow : OpenClaim := { program := "ytjkgafijifkfcaa", sum := "7018561d3644c549f8fb333caeb99bc0a3d904033d166577c5a70125fd76c5d3", func := "pantograph/pantographlaw02.CrcTakes", spec := "crcTakes", apart := false }
def CrcTakesSaid : Prop := crcTakesRow.holds Try.pinned (OpenSpec.ofChange crcTakesSpec)

/-- ITS FALSE NEIGHBOUR: 'it returns false'. Refute it at one input. -/
def crcTakesWrong : ChangeSpec := { name := "crcTakes", fn := fun _ => fun
  | [d] => { results := [.lit (.bool false)], args := [d] }
  | _ => none }
def CrcTakesWrongFalsely : Prop := crcTakesRow.holds Try.pinned (OpenSpec.ofChange crcTakesWrong)

/-- 'pantographlaw02.CrcBursts': WHATEVER THE INPUT: true; the input reads as it did. -/
def crcBurstsSpec : ChangeSpec := { name := "crcBursts", fn := fun _ => fun
  | [d1, d2, d3] => { results := [.lit (.bool true)], args := [d1, d2, d3] }
  | _ => none }
def crcBurstsRow : OpenClaim := { program := "ytjkgafijifkfcaa", sum := "7018561d3644c549f8fb333caeb99bc0a3d904033d166577c5a70125fd76c5d3", func := "pantograph/pantographlaw02.CrcBursts", spec := "crcBursts", apart := false }
def CrcBurstsSaid : Prop := crcBurstsRow.holds Try.pinned (OpenSpec.ofChange crcBurstsSpec)

/-- ITS FALSE NEIGHBOUR: 'it returns false'. Refute it at one input. -/
def crcBurstsWrong : ChangeSpec := { name := "crcBursts", fn := fun _ => fun
  | [d1, d2, d3] => { results := [.lit (.bool false)], args := [d1, d2, d3] }
  | _ => none }
def CrcBurstsWrongFalsely : Prop := crcBurstsRow.holds Try.pinned (OpenSpec.ofChange crcBurstsWrong)

/-- 'pantographlaw02.CrcLong': WHATEVER THE INPUT: true; the input reads as it did. -/
def crcLongSpec : ChangeSpec := { name := "crcLong", fn := fun _ => fun
  | [d1, d2] => { results := [.lit (.bool true)], args := [d1, d2] }
  | _ => none }
def crcLongRow : OpenClaim := { program := "ytjkgafijifkfcaa", sum := "7018561d3644c549f8fb333caeb99bc0a3d904033d166577c5a70125fd76c5d3", func := "pantograph/pantographlaw02.CrcLong", spec := "crcLong", apart := false }
def CrcLongSaid : Prop := crcLongRow.holds Try.pinned (OpenSpec.ofChange crcLongSpec)

/-- ITS FALSE NEIGHBOUR: 'it returns false'. Refute it at one input. -/
def crcLongWrong : ChangeSpec := { name := "crcLong", fn := fun _ => fun
  | [d1, d2] => { results := [.lit (.bool false)], args := [d1, d2] }
  | _ => none }
def CrcLongWrongFalsely : Prop := crcLongRow.holds Try.pinned (OpenSpec.ofChange crcLongWrong)

/- THE SECOND FORM. 'bulk': how many values and letters a reading holds, each counted each time it is reached (what is shared counts as often as it is met; a slice's spare places count too). A statement '..UptoSaid' is the law's where the arguments, and the package variables that the reading takes, are together of bulk at most 1048576: NARROWER than '..Said'. Prove '..Said' where nothing that the law and all that it calls make is longer than what came in: it says more and counts as full. Else prove '..UptoSaid'. A law counts once. -/
mutual
def uptoBulk {H : Type} : DataW H → Nat
  | .lit (.string bytes) => bytes.length + 1
  | .lit _ => 1
  | .nil => 1
  | .ptr d => uptoBulk d + 1
  | .slice elems spare => uptoBulkAll elems + uptoBulkAll spare + 1
  | .agg parts => uptoBulkAll parts + 1
  | .iface _ d => uptoBulk d + 1
  | .map entries => uptoBulkEntries entries + 1
  | .held _ => 1
def uptoBulkAll {H : Type} : List (DataW H) → Nat
  | [] => 0
  | d :: r => uptoBulk d + uptoBulkAll r
def uptoBulkEntries {H : Type} : List (Lit × DataW H) → Nat
  | [] => 0
  | x :: r => uptoBulkEntry x + uptoBulkEntries r
def uptoBulkEntry {H : Type} : Lit × DataW H → Nat
  | (.string bytes, d) => bytes.length + uptoBulk d + 1
  | (_, d) => uptoBulk d + 1
 end
def uptoSmall : (H : Type) → List (DataW H) → Bool := fun _ ds => decide (uptoBulkAll ds ≤ 1048576)
def OpenSpec.upto (s : _root_.Go.ChangeSpec) : _root_.Go.OpenSpec := { _root_.Go.OpenSpec.ofChange s with cond := some uptoSmall }

/-- 'pantographlaw02.CrcSums', WHERE WHAT IT READS IS OF BULK AT MOST 1048576: true; the input reads as it did. -/
def crcSumsUptoRow : OpenClaim := { program := "ytjkgafijifkfcaa", sum := "7018561d3644c549f8fb333caeb99bc0a3d904033d166577c5a70125fd76c5d3", func := "pantograph/pantographlaw02.CrcSums", spec := "crcSums", apart := false, narrowed := true }
def CrcSumsUptoSaid : Prop := crcSumsUptoRow.holds Try.pinned (OpenSpec.upto crcSumsSpec)

/-- 'pantographlaw02.CrcLinear', WHERE WHAT IT READS IS OF BULK AT MOST 1048576: true; the input reads as it did. -/
def crcLinearUptoRow : OpenClaim := { program := "ytjkgafijifkfcaa", sum := "7018561d3644c549f8fb333caeb99bc0a3d904033d166577c5a70125fd76c5d3", func := "pantograph/pantographlaw02.CrcLinear", spec := "crcLinear", apart := false, narrowed := true }
def CrcLinearUptoSaid : Prop := crcLinearUptoRow.holds Try.pinned (OpenSpec.upto crcLinearSpec)

/-- 'pantographlaw02.CrcMore', WHERE WHAT IT READS IS OF BULK AT MOST 1048576: true; the input reads as it did. -/
def crcMoreUptoRow : OpenClaim := { program := "ytjkgafijifkfcaa", sum := "7018561d3644c549f8fb333caeb99bc0a3d904033d166577c5a70125fd76c5d3", func := "pantograph/pantographlaw02.CrcMore", spec := "crcMore", apart := false, narrowed := true }
def CrcMoreUptoSaid : Prop := crcMoreUptoRow.holds Try.pinned (OpenSpec.upto crcMoreSpec)

/-- 'pantographlaw12.TxbufOwns', WHERE WHAT IT READS IS OF BULK AT MOST 1048576: true; the input reads as it did. -/
def txbufOwnsUptoRow : OpenClaim := { program := "ytjkgafijifkfcaa", sum := "7018561d3644c549f8fb333caeb99bc0a3d904033d166577c5a70125fd76c5d3", func := "pantograph/pantographlaw12.TxbufOwns", spec := "txbufOwns", unfollowed := true, recurses := true, apart := false, narrowed := true }
def TxbufOwnsUptoSaid : Prop := txbufOwnsUptoRow.holds Try.pinned (OpenSpec.upto txbufOwnsSpec)

/-- 'pantographlaw12.TxbufHolds', WHERE WHAT IT READS IS OF BULK AT MOST 1048576: true; the input reads as it did. -/
def txbufHoldsUptoRow : OpenClaim := { program := "ytjkgafijifkfcaa", sum := "7018561d3644c549f8fb333caeb99bc0a3d904033d166577c5a70125fd76c5d3", func := "pantograph/pantographlaw12.TxbufHolds", spec := "txbufHolds", unfollowed := true, recurses := true, apart := false, narrowed := true }
def TxbufHoldsUptoSaid : Prop := txbufHoldsUptoRow.holds Try.pinned (OpenSpec.upto txbufHoldsSpec)

/-- 'pantographlaw12.TxbufAborts', WHERE WHAT IT READS IS OF BULK AT MOST 1048576: true; the input reads as it did. -/
def txbufAbortsUptoRow : OpenClaim := { program := "ytjkgafijifkfcaa", sum := "7018561d3644c549f8fb333caeb99bc0a3d904033d166577c5a70125fd76c5d3", func := "pantograph/pantographlaw12.TxbufAborts", spec := "txbufAborts", unfollowed := true, recurses := true, apart := false, narrowed := true }
def TxbufAbortsUptoSaid : Prop := txbufAbortsUptoRow.holds Try.pinned (OpenSpec.upto txbufAbortsSpec)

/-- 'pantographlaw12.TxbufPlays', WHERE WHAT IT READS IS OF BULK AT MOST 1048576: true; the input reads as it did. -/
def txbufPlaysUptoRow : OpenClaim := { program := "ytjkgafijifkfcaa", sum := "7018561d3644c549f8fb333caeb99bc0a3d904033d166577c5a70125fd76c5d3", func := "pantograph/pantographlaw12.TxbufPlays", spec := "txbufPlays", unfollowed := true, recurses := true, apart := false, narrowed := true }
def TxbufPlaysUptoSaid : Prop := txbufPlaysUptoRow.holds Try.pinned (OpenSpec.upto txbufPlaysSpec)

/-- 'pantographlaw12.TxbufClears', WHERE WHAT IT READS IS OF BULK AT MOST 1048576: true; the input reads as it did. -/
def txbufClearsUptoRow : OpenClaim := { program := "ytjkgafijifkfcaa", sum := "7018561d3644c549f8fb333caeb99bc0a3d904033d166577c5a70125fd76c5d3", func := "pantograph/pantographlaw12.TxbufClears", spec := "txbufClears", unfollowed := true, recurses := true, apart := false, narrowed := true }
def TxbufClearsUptoSaid : Prop := txbufClearsUptoRow.holds Try.pinned (OpenSpec.upto txbufClearsSpec)

/-- 'pantographlaw02.CrcPuts', WHERE WHAT IT READS IS OF BULK AT MOST 1048576: true; the input reads as it did. -/
def crcPutsUptoRow : OpenClaim := { program := "ytjkgafijifkfcaa", sum := "7018561d3644c549f8fb333caeb99bc0a3d904033d166577c5a70125fd76c5d3", func := "pantograph/pantographlaw02.CrcPuts", spec := "crcPuts", apart := false, narrowed := true }
def CrcPutsUptoSaid : Prop := crcPutsUptoRow.holds Try.pinned (OpenSpec.upto crcPutsSpec)

/-- 'pantographlaw02.CrcTakes', WHERE WHAT IT READS IS OF BULK AT MOST 1048576: true; the input reads as it did. -/
def crcTakesUptoRow : OpenClaim := { program := "ytjkgafijifkfcaa", sum := "7018561d3644c549f8fb333caeb99bc0a3d904033d166577c5a70125fd76c5d3", func := "pantograph/pantographlaw02.CrcTakes", spec := "crcTakes", apart := false, narrowed := true }
def CrcTakesUptoSaid : Prop := crcTakesUptoRow.holds Try.pinned (OpenSpec.upto crcTakesSpec)

/-- 'pantographlaw02.CrcBursts', WHERE WHAT IT READS IS OF BULK AT MOST 1048576: true; the input reads as it did. -/
def crcBurstsUptoRow : OpenClaim := { program := "ytjkgafijifkfcaa", sum := "7018561d3644c549f8fb333caeb99bc0a3d904033d166577c5a70125fd76c5d3", func := "pantograph/pantographlaw02.CrcBursts", spec := "crcBursts", apart := false, narrowed := true }
def CrcBurstsUptoSaid : Prop := crcBurstsUptoRow.holds Try.pinned (OpenSpec.upto crcBurstsSpec)

/-- 'pantographlaw02.CrcLong', WHERE WHAT IT READS IS OF BULK AT MOST 1048576: true; the input reads as it did. -/
def crcLongUptoRow : OpenClaim := { program := "ytjkgafijifkfcaa", sum := "7018561d3644c549f8fb333caeb99bc0a3d904033d166577c5a70125fd76c5d3", func := "pantograph/pantographlaw02.CrcLong", spec := "crcLong", apart := false, narrowed := true }
def CrcLongUptoSaid : Prop := crcLongUptoRow.holds Try.pinned (OpenSpec.upto crcLongSpec)

end Rows
end Go.Proofs.Ytjkgafijifkfcaa
