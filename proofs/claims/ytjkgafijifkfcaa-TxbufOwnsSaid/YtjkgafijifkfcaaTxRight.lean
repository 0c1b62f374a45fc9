/- The law's own helper: an event whose number is not below 0. Conditions: the number is a 64-bit one. -/
import Derived.Test.YtjkgafijifkfcaaTxFill
namespace Go.Proofs.Ytjkgafijifkfcaa
open Go.RowKit Go.Proofs.YtjkgafijifkfcaaW.PrintWords
set_option linter.unusedVariables false
set_option linter.unusedSimpArgs false
def rightE (x : Ev) : Ev := { x with num := signed x.num }
theorem heap_two_old (w : World) (A B : Obj) : ((w.alloc A).alloc B).heap[w.heap.size]? = some A := heap_alloc2_old w A B
set_option maxRecDepth 100000 in
set_option maxHeartbeats 4000000 in
theorem right_calls (x : Ev) (A3 A4 A7 : Option Addr) (c3 c4 c7 : Nat) (w : World) (hn : -9223372036854775808 ≤ x.num) (hn' : x.num ≤ 9223372036854775807) :
    Calls Try.prog 27 #[.agg #[.int .i64 x.kind, .int .i64 x.num, .string x.table, .slice A3 x.before.length c3, .slice A4 x.after.length c4, .int .i64 x.change.kind, .string x.change.table, .slice A7 x.change.schema.cols.length c7, .int .i64 x.change.schema.keys, .string x.change.column.name, .int .i64 x.change.column.kind, .bool x.change.column.none]] w fun e w' => e = .returned (.agg #[.int .i64 x.kind, .int .i64 (signed x.num), .string x.table, .slice A3 x.before.length c3, .slice A4 x.after.length c4, .int .i64 x.change.kind, .string x.change.table, .slice A7 x.change.schema.cols.length c7, .int .i64 x.change.schema.keys, .string x.change.column.name, .int .i64 x.change.column.kind, .bool x.change.column.none]) ∧ Below w.heap.size w w' := by
  by_cases h : x.num < 0
  · have hs : signed x.num = -(x.num + 1) := if_pos h
    go_enter Try.func27, Try.ntmps27
    go_wp2
    refine bodyPost_ret (v := .agg #[.int .i64 x.kind, .int .i64 (-(x.num + 1)), .string x.table, .slice A3 x.before.length c3, .slice A4 x.after.length c4, .int .i64 x.change.kind, .string x.change.table, .slice A7 x.change.schema.cols.length c7, .int .i64 x.change.schema.keys, .string x.change.column.name, .int .i64 x.change.column.kind, .bool x.change.column.none]) (results_cell_row Try.results27 _ _ (w.heap.size + 1) 49 _ (0, 0) _ rfl (heap_alloc2_new _ _ _) Try.underlying49 rfl (by kernel_rfl)) rfl ⟨by first | rfl | rw [hs], ((Below.refl _ _).alloc (Nat.le_refl _) _).alloc (by simp) _⟩
  · have hs : signed x.num = x.num := if_neg h
    go_enter Try.func27, Try.ntmps27
    go_wp2
    refine bodyPost_ret (v := .agg #[.int .i64 x.kind, .int .i64 x.num, .string x.table, .slice A3 x.before.length c3, .slice A4 x.after.length c4, .int .i64 x.change.kind, .string x.change.table, .slice A7 x.change.schema.cols.length c7, .int .i64 x.change.schema.keys, .string x.change.column.name, .int .i64 x.change.column.kind, .bool x.change.column.none]) (results_cell_row Try.results27 _ _ (w.heap.size + 1) 49 _ (0, 0) _ rfl (heap_alloc2_new _ _ _) Try.underlying49 rfl (by kernel_rfl)) rfl ⟨by first | rfl | rw [hs], ((Below.refl _ _).alloc (Nat.le_refl _) _).alloc (by simp) _⟩
end Go.Proofs.Ytjkgafijifkfcaa
