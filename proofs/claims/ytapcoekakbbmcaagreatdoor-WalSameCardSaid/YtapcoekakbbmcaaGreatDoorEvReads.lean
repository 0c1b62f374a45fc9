/- What reads as data at the api's types reads as a value, a column, an event. -/
import Derived.Test.YtapcoekakbbmcaaGreatDoorReads
import Derived.Test.YtapcoekakbbmcaaGreatDoorApiClone
import Derived.Test.YtapcoekakbbmcaaGreatDoorOpen
namespace Go.Proofs.YtapcoekakbbmcaaGreatDoor
open Go.RowKit Go.Proofs.YtapcoekakbbmcaaGreatDoorW.PrintWords
set_option linter.unusedVariables false
def fits64 (n : Int) : Prop := (Lit.int .i64 n).wf = true
theorem fits64.bounds {n : Int} (h : fits64 n) : -9223372036854775808 ≤ n ∧ n ≤ 9223372036854775807 := Open.i64_bounds h
theorem rd_int : Reads Tryz.prog 3 (Kd.int .i64) fits64 := Reads.int Tryz.underlying3 (by kernel_rfl)
theorem rd_str : Reads Tryz.prog 9 Kd.string (fun s => s.size ≤ reachBytes) := Reads.string Tryz.underlying9 (by kernel_rfl)
theorem rd_bool : Reads Tryz.prog 4 Kd.bool (fun _ => True) := Reads.bool Tryz.underlying4 (by kernel_rfl)
theorem rd_Val : Reads Tryz.prog 70 kVal (fun x => fits64 x.kind ∧ fits64 x.num ∧ x.text.size ≤ reachBytes) :=
  Reads.iso (Reads.struct Tryz.underlying70 (by kernel_rfl) (ReadsAt.cons (i := 0) rfl rd_int rfl (ReadsAt.cons (i := 1) rfl rd_int rfl (ReadsAt.last (i := 2) rfl rd_str)))) (fun x : Val => (x.kind, x.num, x.text)) (fun p => ⟨p.1, p.2.1, p.2.2⟩) (fun _ => rfl)
theorem rd_Col : Reads Tryz.prog 28 kCol (fun x => x.name.size ≤ reachBytes ∧ fits64 x.kind ∧ True) :=
  Reads.iso (Reads.struct Tryz.underlying28 (by kernel_rfl) (ReadsAt.cons (i := 0) rfl rd_str rfl (ReadsAt.cons (i := 1) rfl rd_int rfl (ReadsAt.last (i := 2) rfl rd_bool)))) (fun x : Col => (x.name, x.kind, x.none)) (fun p => ⟨p.1, p.2.1, p.2.2⟩) (fun _ => rfl)
def valOk (x : Val) : Prop := fits64 x.kind ∧ fits64 x.num ∧ x.text.size ≤ reachBytes
def colOk (x : Col) : Prop := x.name.size ≤ reachBytes ∧ fits64 x.kind ∧ True
def rowOk (l : List Val) : Prop := (∀ a ∈ l, valOk a) ∧ l.length * 32 ≤ reachBytes
def colsOk (l : List Col) : Prop := (∀ a ∈ l, colOk a) ∧ l.length * 32 ≤ reachBytes
theorem rd_row : Reads Tryz.prog 23 (Kd.slice 70 kVal) rowOk := Reads.slice Tryz.underlying23 (by kernel_rfl) (by kernel_rfl) rd_Val
theorem rd_vals : Reads Tryz.prog 22 (Kd.slice 70 kVal) rowOk := Reads.slice Tryz.underlying22 (by kernel_rfl) (by kernel_rfl) rd_Val
theorem rd_cols : Reads Tryz.prog 24 (Kd.slice 28 kCol) colsOk := Reads.slice Tryz.underlying24 (by kernel_rfl) (by kernel_rfl) rd_Col
def schOk (x : Sch) : Prop := colsOk x.cols ∧ fits64 x.keys
theorem rd_Sch : Reads Tryz.prog 26 kSch schOk :=
  Reads.iso (Reads.struct Tryz.underlying26 (by kernel_rfl) (ReadsAt.cons (i := 0) rfl rd_cols rfl (ReadsAt.last (i := 1) rfl rd_int))) (fun x : Sch => (x.cols, x.keys)) (fun p => ⟨p.1, p.2⟩) (fun _ => rfl)
def chgOk (x : Chg) : Prop := fits64 x.kind ∧ x.table.size ≤ reachBytes ∧ schOk x.schema ∧ colOk x.column
theorem rd_Chg : Reads Tryz.prog 30 kChg chgOk :=
  Reads.iso (Reads.struct Tryz.underlying30 (by kernel_rfl) (ReadsAt.cons (i := 0) rfl rd_int rfl (ReadsAt.cons (i := 1) rfl rd_str rfl (ReadsAt.cons (i := 2) rfl rd_Sch rfl (ReadsAt.last (i := 3) rfl rd_Col))))) (fun x : Chg => (x.kind, x.table, x.schema, x.column)) (fun p => ⟨p.1, p.2.1, p.2.2.1, p.2.2.2⟩) (fun _ => rfl)
def evOk (x : Ev) : Prop := fits64 x.kind ∧ fits64 x.num ∧ x.table.size ≤ reachBytes ∧ rowOk x.before ∧ rowOk x.after ∧ chgOk x.change
theorem rd_Ev : Reads Tryz.prog 32 kEv evOk :=
  Reads.iso (Reads.struct Tryz.underlying32 (by kernel_rfl) (ReadsAt.cons (i := 0) rfl rd_int rfl (ReadsAt.cons (i := 1) rfl rd_int rfl (ReadsAt.cons (i := 2) rfl rd_str rfl (ReadsAt.cons (i := 3) rfl rd_row rfl (ReadsAt.cons (i := 4) rfl rd_row rfl (ReadsAt.last (i := 5) rfl rd_Chg))))))) (fun x : Ev => (x.kind, x.num, x.table, x.before, x.after, x.change)) (fun p => ⟨p.1, p.2.1, p.2.2.1, p.2.2.2.1, p.2.2.2.2.1, p.2.2.2.2.2⟩) (fun _ => rfl)
def evsOk (l : List Ev) : Prop := (∀ a ∈ l, evOk a) ∧ l.length * 168 ≤ reachBytes
theorem rd_evs : Reads Tryz.prog 58 (Kd.slice 32 kEv) evsOk := Reads.slice Tryz.underlying58 (by kernel_rfl) (by kernel_rfl) rd_Ev
end Go.Proofs.YtapcoekakbbmcaaGreatDoor
