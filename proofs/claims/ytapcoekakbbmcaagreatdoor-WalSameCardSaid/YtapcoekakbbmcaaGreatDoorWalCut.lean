/- The law's cut of a change. Conditions: the change reads so. -/
import Derived.Test.YtapcoekakbbmcaaGreatDoorWalOfs
import Derived.Test.YtapcoekakbbmcaaGreatDoorWMore
namespace Go.Proofs.YtapcoekakbbmcaaGreatDoor
open Go.RowKit Go.Proofs.YtapcoekakbbmcaaGreatDoorW.PrintWords Go.Proofs.YtapcoekakbbmcaaGreatDoorW.PrintMore
set_option linter.unusedVariables false
set_option linter.unusedSimpArgs false
theorem min_calls (a b : Int) : ∀ (ats : Array TypeId) (ty : TypeId), Builtin.min_ ats ty #[.int .i64 a, .int .i64 b] = pure (.int .i64 (min a b)) := fun ats ty => by
  rw [min_two]
  simp only [min2_int, pure_bind]
  congr 2
  split <;> omega
def cutS (s : ByteArray) : ByteArray := s.extract 0 (min s.size 40)
theorem cutS_run (s : ByteArray) (W : World) : (Instr.slice 9 (.string s) none (some (.int .i64 (min (s.size : Int) 40))) none).run Tryz.prog W = .ok (.string (cutS s)) W := by
  have h : (min (s.size : Int) 40).toNat = min s.size 40 := by omega
  rw [run_slice_string_h W 9 s Tryz.underlying9 .i64 _ (by omega) (by omega), h]
  rfl
theorem cols_run (A : Option Addr) (n c : Nat) (hc : n ≤ c) (W : World) : (Instr.slice 24 (.slice A n c) none (some (.int .i64 (min (n : Int) 20))) none).run Tryz.prog W = .ok (.slice A (min n 20) c) W := by
  have hel : Tryz.prog.elem 24 = 28 := by kernel_rfl
  have hu : Tryz.prog.underlying 24 = some (.slice (Tryz.prog.elem 24)) := by rw [hel]; exact Tryz.underlying24
  rw [run_slice_h W 24 A n c hu .i64 (min (n : Int) 20) (by omega) (by omega), hel]
  have hz : (sizeOf 28).run Tryz.prog W = .ok 3 W := by kernel_rfl
  rw [hz]
  have h : (min (n : Int) 20).toNat = min n 20 := by omega
  simp only [sliced, Result.andThen, h]
  cases A with
  | none => simp
  | some a => obtain ⟨k, o, i⟩ := a; cases i <;> simp [Addr.add]
def cutC (x : Chg) : Chg := ⟨x.kind, cutS x.table, ⟨x.schema.cols.take (min x.schema.cols.length 20), x.schema.keys⟩, ⟨cutS x.column.name, x.column.kind, x.column.none⟩⟩
set_option maxRecDepth 100000 in
set_option maxHeartbeats 2000000 in
theorem cut_calls (x : Chg) (A : Option Addr) (c : Nat) (hc : x.schema.cols.length ≤ c) (w : World) : Calls Tryz.prog 10 #[.agg #[.int .i64 x.kind, .string x.table, .slice A x.schema.cols.length c, .int .i64 x.schema.keys, .string x.column.name, .int .i64 x.column.kind, .bool x.column.none]] w fun e w' => e = .returned (.agg #[.int .i64 x.kind, .string (cutS x.table), .slice A (min x.schema.cols.length 20) c, .int .i64 x.schema.keys, .string (cutS x.column.name), .int .i64 x.column.kind, .bool x.column.none]) ∧ Below w.heap.size w w' := by
  have m1 := min_calls (x.table.size : Int) 40
  have m2 := min_calls (x.column.name.size : Int) 40
  have m3 := min_calls (x.schema.cols.length : Int) 20
  have s1 := cutS_run x.table
  have s2 := cutS_run x.column.name
  have s3 := cols_run A x.schema.cols.length c hc
  have hbb := fun (o1 o2 : Obj) => ((Below.refl w.heap.size w).alloc (Nat.le_refl _) o1).alloc (by simp : w.heap.size ≤ (w.alloc o1).heap.size) o2
  generalize cutS x.table = q1 at *
  generalize cutS x.column.name = q2 at *
  generalize min (x.table.size : Int) 40 = i1 at *
  generalize min (x.column.name.size : Int) 40 = i2 at *
  generalize min (x.schema.cols.length : Int) 20 = i3 at *
  generalize min x.schema.cols.length 20 = q3 at *
  go_enter Tryz.func10, Tryz.ntmps10
  go_wp2
  exact bodyPost_ret (v := .agg #[.int .i64 x.kind, .string q1, .slice A q3 c, .int .i64 x.schema.keys, .string q2, .int .i64 x.column.kind, .bool x.column.none]) (by simp [results, Tryz.results10, go_sem]) rfl ⟨rfl, hbb _ _⟩
end Go.Proofs.YtapcoekakbbmcaaGreatDoor
