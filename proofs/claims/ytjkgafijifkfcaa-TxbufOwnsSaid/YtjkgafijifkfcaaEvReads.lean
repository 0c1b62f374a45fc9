/- What reads as data at the api's types reads as a value, a column, an event. -/
import Derived.Test.YtjkgafijifkfcaaReads
import Derived.Test.YtjkgafijifkfcaaApiClone
import Derived.Test.YtjkgafijifkfcaaOpen
namespace Go.Proofs.Ytjkgafijifkfcaa
open Go.RowKit Go.Proofs.YtjkgafijifkfcaaW.PrintWords
set_option linter.unusedVariables false
def fits64 (n : Int) : Prop := (Lit.int .i64 n).wf = true
theorem fits64.bounds {n : Int} (h : fits64 n) : -9223372036854775808 ≤ n ∧ n ≤ 9223372036854775807 := Open.i64_bounds h
theorem rd_int : Reads Try.prog 3 (Kd.int .i64) fits64 := Reads.int Try.underlying3 (by kernel_rfl)
theorem rd_str : Reads Try.prog 9 Kd.string (fun s => s.size ≤ reachBytes) := Reads.string Try.underlying9 (by kernel_rfl)
theorem rd_bool : Reads Try.prog 4 Kd.bool (fun _ => True) := Reads.bool Try.underlying4 (by kernel_rfl)
theorem rd_Val : Reads Try.prog 36 kVal (fun x => fits64 x.kind ∧ fits64 x.num ∧ x.text.size ≤ reachBytes) :=
  Reads.iso (Reads.struct Try.underlying36 (by kernel_rfl) (ReadsAt.cons (i := 0) rfl rd_int rfl (ReadsAt.cons (i := 1) rfl rd_int rfl (ReadsAt.last (i := 2) rfl rd_str)))) (fun x : Val => (x.kind, x.num, x.text)) (fun p => ⟨p.1, p.2.1, p.2.2⟩) (fun _ => rfl)
theorem rd_Col : Reads Try.prog 45 kCol (fun x => x.name.size ≤ reachBytes ∧ fits64 x.kind ∧ True) :=
  Reads.iso (Reads.struct Try.underlying45 (by kernel_rfl) (ReadsAt.cons (i := 0) rfl rd_str rfl (ReadsAt.cons (i := 1) rfl rd_int rfl (ReadsAt.last (i := 2) rfl rd_bool)))) (fun x : Col => (x.name, x.kind, x.none)) (fun p => ⟨p.1, p.2.1, p.2.2⟩) (fun _ => rfl)
def valOk (x : Val) : Prop := fits64 x.kind ∧ fits64 x.num ∧ x.text.size ≤ reachBytes
def colOk (x : Col) : Prop := x.name.size ≤ reachBytes ∧ fits64 x.kind ∧ True
def rowOk (l : List Val) : Prop := (∀ a ∈ l, valOk a) ∧ l.length * 32 ≤ reachBytes
def colsOk (l : List Col) : Prop := (∀ a ∈ l, colOk a) ∧ l.length * 32 ≤ reachBytes
theorem rd_row : Reads Try.prog 34 (Kd.slice 36 kVal) rowOk := Reads.slice Try.underlying34 (by kernel_rfl) (by kernel_rfl) rd_Val
theorem rd_vals : Reads Try.prog 31 (Kd.slice 36 kVal) rowOk := Reads.slice Try.underlying31 (by kernel_rfl) (by kernel_rfl) rd_Val
theorem rd_cols : Reads Try.prog 41 (Kd.slice 45 kCol) colsOk := Reads.slice Try.underlying41 (by kernel_rfl) (by kernel_rfl) rd_Col
def schOk (x : Sch) : Prop := colsOk x.cols ∧ fits64 x.keys
theorem rd_Sch : Reads Try.prog 43 kSch schOk :=
  Reads.iso (Reads.struct Try.underlying43 (by kernel_rfl) (ReadsAt.cons (i := 0) rfl rd_cols rfl (ReadsAt.last (i := 1) rfl rd_int))) (fun x : Sch => (x.cols, x.keys)) (fun p => ⟨p.1, p.2⟩) (fun _ => rfl)
def chgOk (x : Chg) : Prop := fits64 x.kind ∧ x.table.size ≤ reachBytes ∧ schOk x.schema ∧ colOk x.column
theorem rd_Chg : Reads Try.prog 47 kChg chgOk :=
  Reads.iso (Reads.struct Try.underlying47 (by kernel_rfl) (ReadsAt.cons (i := 0) rfl rd_int rfl (ReadsAt.cons (i := 1) rfl rd_str rfl (ReadsAt.cons (i := 2) rfl rd_Sch rfl (ReadsAt.last (i := 3) rfl rd_Col))))) (fun x : Chg => (x.kind, x.table, x.schema, x.column)) (fun p => ⟨p.1, p.2.1, p.2.2.1, p.2.2.2⟩) (fun _ => rfl)
def evOk (x : Ev) : Prop := fits64 x.kind ∧ fits64 x.num ∧ x.table.size ≤ reachBytes ∧ rowOk x.before ∧ rowOk x.after ∧ chgOk x.change
theorem rd_Ev : Reads Try.prog 49 kEv evOk :=
  Reads.iso (Reads.struct Try.underlying49 (by kernel_rfl) (ReadsAt.cons (i := 0) rfl rd_int rfl (ReadsAt.cons (i := 1) rfl rd_int rfl (ReadsAt.cons (i := 2) rfl rd_str rfl (ReadsAt.cons (i := 3) rfl rd_row rfl (ReadsAt.cons (i := 4) rfl rd_row rfl (ReadsAt.last (i := 5) rfl rd_Chg))))))) (fun x : Ev => (x.kind, x.num, x.table, x.before, x.after, x.change)) (fun p => ⟨p.1, p.2.1, p.2.2.1, p.2.2.2.1, p.2.2.2.2.1, p.2.2.2.2.2⟩) (fun _ => rfl)
def evsOk (l : List Ev) : Prop := (∀ a ∈ l, evOk a) ∧ l.length * 168 ≤ reachBytes
theorem rd_evs : Reads Try.prog 37 (Kd.slice 49 kEv) evsOk := Reads.slice Try.underlying37 (by kernel_rfl) (by kernel_rfl) rd_Ev
end Go.Proofs.Ytjkgafijifkfcaa
