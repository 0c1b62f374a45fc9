/- The document's comparisons of rows, schemas, changes, events tell that what reads alike is the same. Conditions: both read so. -/
import Derived.Test.YtmdofdaiepilbaaGreatDoorGApi
import Derived.RegionTactic
import Derived.Outline
import Derived.BigQuiet
import Derived.StillTailTactics
import Derived.Deep.QuietTactic
import Derived.Deep.RegionHeld3
namespace Go.Proofs.YtmdofdaiepilbaaGreatDoor
open Go.RowKit Go.Proofs.YtmdofdaiepilbaaGreatDoorW.PrintWords
set_option linter.unusedVariables false
set_option linter.unusedSimpArgs false
set_option maxRecDepth 100000 in
set_option maxHeartbeats 4000000 in
theorem same03 (A B : Option Addr) (c d : Nat) (xs : List Val) (w : World) (hA : kVal.C w A xs.length xs) (hB : kVal.C w B xs.length xs) :
    Calls Tryz.prog 67 #[.slice A xs.length c, .slice B xs.length d] w fun e w' => e = .returned (.bool true) ∧ Below w.heap.size w w' := by
  have hlen : xs.length ≤ 9223372036854775807 := hA.2.1
  have HA := Aside0.mk hA
  have HB := Aside0.mk hB
  clear hA hB
  go_enter Tryz.func67, Tryz.ntmps67
  go_wp2
  go_loopw [5] (fun i wr => Below w.heap.size w wr ∧ ∃ k : Nat, k ≤ xs.length ∧ i = .int .i64 k) (fun i _ => xs.length - (intOf i).toNat)
  case atStart => exact ⟨Below.refl _ _, 0, by omega, rfl⟩
  case round =>
    obtain ⟨hbel, k, hk, rfl⟩ := hrel
    by_cases hlt : k < xs.length
    · obtain ⟨ad, ea, d0, d1, d2⟩ := at_Val HA.out k hlt
      obtain ⟨bd, eb, f0, f1, f2⟩ := at_Val HB.out k hlt
      cases ea
      cases eb
      replace d0 := pw_cell_below hbel d0
      replace d1 := pw_cell_below hbel d1
      replace d2 := pw_cell_below hbel d2
      replace f0 := pw_cell_below hbel f0
      replace f1 := pw_cell_below hbel f1
      replace f2 := pw_cell_below hbel f2
      have HBel := Aside0.mk hbel
      clear hbel
      generalize rdVal xs k = x at *
      go_wp2
      go_region
      go_wp2
      go_roundw
      case rel => exact ⟨(HBel.out).drew, k + 1, by omega, by go_num⟩
      case measure => simp [intOf]; omega
    · obtain rfl : k = xs.length := by omega
      go_wp2
      go_ret
      exact ⟨rfl, hbel⟩

set_option maxRecDepth 100000 in
set_option maxHeartbeats 4000000 in
theorem same04 (A B : Option Addr) (c d : Nat) (xs : List Col) (ks : Int) (w : World) (hA : kCol.C w A xs.length xs) (hB : kCol.C w B xs.length xs) :
    Calls Tryz.prog 71 #[.agg #[.slice A xs.length c, .int .i64 ks], .agg #[.slice B xs.length d, .int .i64 ks]] w fun e w' => e = .returned (.bool true) ∧ Below w.heap.size w w' := by
  have hlen : xs.length ≤ 9223372036854775807 := hA.2.1
  have HA := Aside0.mk hA
  have HB := Aside0.mk hB
  clear hA hB
  go_enter Tryz.func71, Tryz.ntmps71
  go_wp2
  have hW : Below w.heap.size w ((((w.alloc (.cells #[.slice A xs.length c, .int .i64 ks] 43)).alloc (.cells #[.slice B xs.length d, .int .i64 ks] 43)))) := below_alloc (below_alloc (Below.refl _ _) _) _
  have h0 : ((((w.alloc (.cells #[.slice A xs.length c, .int .i64 ks] 43)).alloc (.cells #[.slice B xs.length d, .int .i64 ks] 43)))).heap[w.heap.size]? = some (.cells #[.slice A xs.length c, .int .i64 ks] 43 (0, 0)) := heap_alloc2_old _ _ _
  have h1 : ((((w.alloc (.cells #[.slice A xs.length c, .int .i64 ks] 43)).alloc (.cells #[.slice B xs.length d, .int .i64 ks] 43)))).heap[w.heap.size + 1]? = some (.cells #[.slice B xs.length d, .int .i64 ks] 43 (0, 0)) := heap_alloc2_new _ _ _
  have hs : w.heap.size + 2 ≤ ((((w.alloc (.cells #[.slice A xs.length c, .int .i64 ks] 43)).alloc (.cells #[.slice B xs.length d, .int .i64 ks] 43)))).heap.size := by simp
  generalize ((w.alloc (.cells #[.slice A xs.length c, .int .i64 ks] 43)).alloc (.cells #[.slice B xs.length d, .int .i64 ks] 43)) = W1 at *
  have HW := Aside0.mk hW
  have H0 := Aside0.mk h0
  have H1 := Aside0.mk h1
  have HS := Aside0.mk hs
  clear hW h0 h1 hs
  go_loopw [5] (fun i wr => Below W1.heap.size W1 wr ∧ ∃ k : Nat, k ≤ xs.length ∧ i = .int .i64 k) (fun i _ => xs.length - (intOf i).toNat)
  case atStart => exact ⟨Below.refl _ _, 0, by omega, rfl⟩
  case round =>
    obtain ⟨hbel, k, hk, rfl⟩ := hrel
    have a0 : wr.cell? ⟨w.heap.size, 0, none⟩ = some (.slice A xs.length c) := pw_cell_below hbel (cell_of_row W1 _ 0 _ _ _ H0.out)
    have b0 : wr.cell? ⟨w.heap.size + 1, 0, none⟩ = some (.slice B xs.length d) := pw_cell_below hbel (cell_of_row W1 _ 0 _ _ _ H1.out)
    by_cases hlt : k < xs.length
    · obtain ⟨ad, ea, d0, d1, d2⟩ := at_Col HA.out k hlt
      obtain ⟨bd, eb, f0, f1, f2⟩ := at_Col HB.out k hlt
      cases ea
      cases eb
      have hbw : Below w.heap.size w wr := HW.out.trans (hbel.mono (by have := HS.out; omega))
      replace d0 := pw_cell_below hbw d0
      replace d1 := pw_cell_below hbw d1
      replace d2 := pw_cell_below hbw d2
      replace f0 := pw_cell_below hbw f0
      replace f1 := pw_cell_below hbw f1
      replace f2 := pw_cell_below hbw f2
      have HBel := Aside0.mk hbel
      clear hbel hbw
      generalize rdCol xs k = x at *
      go_wp2
      go_region
      go_wp2
      go_roundw
      case rel => exact ⟨(HBel.out).drew, k + 1, by omega, by go_num⟩
      case measure => simp [intOf]; omega
    · obtain rfl : k = xs.length := by omega
      have HBel := Aside0.mk hbel
      clear hbel
      go_wp2
      go_ret
      exact ⟨rfl, HW.out.trans (HBel.out.mono (by have := HS.out; omega))⟩

set_option maxRecDepth 100000 in
set_option maxHeartbeats 4000000 in
theorem sameChg (A B : Option Addr) (c d : Nat) (x : Chg) (w : World) (hA : kCol.C w A x.schema.cols.length x.schema.cols) (hB : kCol.C w B x.schema.cols.length x.schema.cols) :
    Calls Tryz.prog 44 #[.agg #[.int .i64 x.kind, .string x.table, .slice A x.schema.cols.length c, .int .i64 x.schema.keys, .string x.column.name, .int .i64 x.column.kind, .bool x.column.none], .agg #[.int .i64 x.kind, .string x.table, .slice B x.schema.cols.length d, .int .i64 x.schema.keys, .string x.column.name, .int .i64 x.column.kind, .bool x.column.none]] w fun e w' => e = .returned (.bool true) ∧ Below w.heap.size w w' := by
  have HA := Aside0.mk hA
  have HB := Aside0.mk hB
  clear hA hB
  go_enter Tryz.func44, Tryz.ntmps44
  go_wp2_with fail
  have hW : Below w.heap.size w ((w.alloc (.cells #[.int .i64 x.kind, .string x.table, .slice A x.schema.cols.length c, .int .i64 x.schema.keys, .string x.column.name, .int .i64 x.column.kind, .bool x.column.none] 53)).alloc (.cells #[.int .i64 x.kind, .string x.table, .slice B x.schema.cols.length d, .int .i64 x.schema.keys, .string x.column.name, .int .i64 x.column.kind, .bool x.column.none] 53)) := below_alloc (below_alloc (Below.refl _ _) _) _
  have h0 : (((w.alloc (.cells #[.int .i64 x.kind, .string x.table, .slice A x.schema.cols.length c, .int .i64 x.schema.keys, .string x.column.name, .int .i64 x.column.kind, .bool x.column.none] 53)).alloc (.cells #[.int .i64 x.kind, .string x.table, .slice B x.schema.cols.length d, .int .i64 x.schema.keys, .string x.column.name, .int .i64 x.column.kind, .bool x.column.none] 53))).heap[w.heap.size]? = some (.cells #[.int .i64 x.kind, .string x.table, .slice A x.schema.cols.length c, .int .i64 x.schema.keys, .string x.column.name, .int .i64 x.column.kind, .bool x.column.none] 53 (0, 0)) := heap_alloc2_old _ _ _
  have h1 : (((w.alloc (.cells #[.int .i64 x.kind, .string x.table, .slice A x.schema.cols.length c, .int .i64 x.schema.keys, .string x.column.name, .int .i64 x.column.kind, .bool x.column.none] 53)).alloc (.cells #[.int .i64 x.kind, .string x.table, .slice B x.schema.cols.length d, .int .i64 x.schema.keys, .string x.column.name, .int .i64 x.column.kind, .bool x.column.none] 53))).heap[w.heap.size + 1]? = some (.cells #[.int .i64 x.kind, .string x.table, .slice B x.schema.cols.length d, .int .i64 x.schema.keys, .string x.column.name, .int .i64 x.column.kind, .bool x.column.none] 53 (0, 0)) := heap_alloc2_new _ _ _
  have hs : w.heap.size + 2 ≤ (((w.alloc (.cells #[.int .i64 x.kind, .string x.table, .slice A x.schema.cols.length c, .int .i64 x.schema.keys, .string x.column.name, .int .i64 x.column.kind, .bool x.column.none] 53)).alloc (.cells #[.int .i64 x.kind, .string x.table, .slice B x.schema.cols.length d, .int .i64 x.schema.keys, .string x.column.name, .int .i64 x.column.kind, .bool x.column.none] 53))).heap.size := by simp
  generalize ((w.alloc (.cells #[.int .i64 x.kind, .string x.table, .slice A x.schema.cols.length c, .int .i64 x.schema.keys, .string x.column.name, .int .i64 x.column.kind, .bool x.column.none] 53)).alloc (.cells #[.int .i64 x.kind, .string x.table, .slice B x.schema.cols.length d, .int .i64 x.schema.keys, .string x.column.name, .int .i64 x.column.kind, .bool x.column.none] 53)) = W1 at *
  have HW := Aside0.mk hW
  have H0 := Aside0.mk h0
  have H1 := Aside0.mk h1
  have HS := Aside0.mk hs
  clear hW h0 h1 hs
  have P := Aside0.mk (same04 A B c d x.schema.cols x.schema.keys W1 (Kd.C_below HA.out HW.out) (Kd.C_below HB.out HW.out))
  have a0 : W1.cell? ⟨w.heap.size, 0, none⟩ = some (.int .i64 x.kind) := cell_of_row W1 _ 0 _ _ _ H0.out
  have a1 : W1.cell? ⟨w.heap.size, 1, none⟩ = some (.string x.table) := cell_of_row W1 _ 1 _ _ _ H0.out
  have a2 : W1.cell? ⟨w.heap.size, 2, none⟩ = some (.slice A x.schema.cols.length c) := cell_of_row W1 _ 2 _ _ _ H0.out
  have a3 : W1.cell? ⟨w.heap.size, 3, none⟩ = some (.int .i64 x.schema.keys) := cell_of_row W1 _ 3 _ _ _ H0.out
  have a4 : W1.cell? ⟨w.heap.size, 4, none⟩ = some (.string x.column.name) := cell_of_row W1 _ 4 _ _ _ H0.out
  have a5 : W1.cell? ⟨w.heap.size, 5, none⟩ = some (.int .i64 x.column.kind) := cell_of_row W1 _ 5 _ _ _ H0.out
  have a6 : W1.cell? ⟨w.heap.size, 6, none⟩ = some (.bool x.column.none) := cell_of_row W1 _ 6 _ _ _ H0.out
  have b0 : W1.cell? ⟨w.heap.size + 1, 0, none⟩ = some (.int .i64 x.kind) := cell_of_row W1 _ 0 _ _ _ H1.out
  have b1 : W1.cell? ⟨w.heap.size + 1, 1, none⟩ = some (.string x.table) := cell_of_row W1 _ 1 _ _ _ H1.out
  have b2 : W1.cell? ⟨w.heap.size + 1, 2, none⟩ = some (.slice B x.schema.cols.length d) := cell_of_row W1 _ 2 _ _ _ H1.out
  have b3 : W1.cell? ⟨w.heap.size + 1, 3, none⟩ = some (.int .i64 x.schema.keys) := cell_of_row W1 _ 3 _ _ _ H1.out
  have b4 : W1.cell? ⟨w.heap.size + 1, 4, none⟩ = some (.string x.column.name) := cell_of_row W1 _ 4 _ _ _ H1.out
  have b5 : W1.cell? ⟨w.heap.size + 1, 5, none⟩ = some (.int .i64 x.column.kind) := cell_of_row W1 _ 5 _ _ _ H1.out
  have b6 : W1.cell? ⟨w.heap.size + 1, 6, none⟩ = some (.bool x.column.none) := cell_of_row W1 _ 6 _ _ _ H1.out
  go_wp2_with (go_at_call 71; (with_reducible refine P.out.mono ?_); rintro e w2 ⟨rfl, hb2⟩; have HB2 := Aside0.mk hb2; clear hb2; have a'0 : w2.cell? ⟨w.heap.size, 0, none⟩ = some (.int .i64 x.kind) := pw_cell_below HB2.out (cell_of_row W1 _ 0 _ _ _ H0.out); have a'1 : w2.cell? ⟨w.heap.size, 1, none⟩ = some (.string x.table) := pw_cell_below HB2.out (cell_of_row W1 _ 1 _ _ _ H0.out); have a'2 : w2.cell? ⟨w.heap.size, 2, none⟩ = some (.slice A x.schema.cols.length c) := pw_cell_below HB2.out (cell_of_row W1 _ 2 _ _ _ H0.out); have a'3 : w2.cell? ⟨w.heap.size, 3, none⟩ = some (.int .i64 x.schema.keys) := pw_cell_below HB2.out (cell_of_row W1 _ 3 _ _ _ H0.out); have a'4 : w2.cell? ⟨w.heap.size, 4, none⟩ = some (.string x.column.name) := pw_cell_below HB2.out (cell_of_row W1 _ 4 _ _ _ H0.out); have a'5 : w2.cell? ⟨w.heap.size, 5, none⟩ = some (.int .i64 x.column.kind) := pw_cell_below HB2.out (cell_of_row W1 _ 5 _ _ _ H0.out); have a'6 : w2.cell? ⟨w.heap.size, 6, none⟩ = some (.bool x.column.none) := pw_cell_below HB2.out (cell_of_row W1 _ 6 _ _ _ H0.out); have b'0 : w2.cell? ⟨w.heap.size + 1, 0, none⟩ = some (.int .i64 x.kind) := pw_cell_below HB2.out (cell_of_row W1 _ 0 _ _ _ H1.out); have b'1 : w2.cell? ⟨w.heap.size + 1, 1, none⟩ = some (.string x.table) := pw_cell_below HB2.out (cell_of_row W1 _ 1 _ _ _ H1.out); have b'2 : w2.cell? ⟨w.heap.size + 1, 2, none⟩ = some (.slice B x.schema.cols.length d) := pw_cell_below HB2.out (cell_of_row W1 _ 2 _ _ _ H1.out); have b'3 : w2.cell? ⟨w.heap.size + 1, 3, none⟩ = some (.int .i64 x.schema.keys) := pw_cell_below HB2.out (cell_of_row W1 _ 3 _ _ _ H1.out); have b'4 : w2.cell? ⟨w.heap.size + 1, 4, none⟩ = some (.string x.column.name) := pw_cell_below HB2.out (cell_of_row W1 _ 4 _ _ _ H1.out); have b'5 : w2.cell? ⟨w.heap.size + 1, 5, none⟩ = some (.int .i64 x.column.kind) := pw_cell_below HB2.out (cell_of_row W1 _ 5 _ _ _ H1.out); have b'6 : w2.cell? ⟨w.heap.size + 1, 6, none⟩ = some (.bool x.column.none) := pw_cell_below HB2.out (cell_of_row W1 _ 6 _ _ _ H1.out))
  go_ret
  exact ⟨rfl, HW.out.trans (HB2.out.mono (by have := HS.out; omega))⟩

set_option maxRecDepth 100000 in
set_option maxHeartbeats 4000000 in
theorem same06 (A3 B3 A4 B4 A7 B7 : Option Addr) (c3 d3 c4 d4 c7 d7 : Nat) (x : Ev) (w : World) (hA3 : kVal.C w A3 x.before.length x.before) (hB3 : kVal.C w B3 x.before.length x.before) (hA4 : kVal.C w A4 x.after.length x.after) (hB4 : kVal.C w B4 x.after.length x.after) (hA7 : kCol.C w A7 x.change.schema.cols.length x.change.schema.cols) (hB7 : kCol.C w B7 x.change.schema.cols.length x.change.schema.cols) :
    Calls Tryz.prog 38 #[.agg #[.int .i64 x.kind, .int .i64 x.num, .string x.table, .slice A3 x.before.length c3, .slice A4 x.after.length c4, .int .i64 x.change.kind, .string x.change.table, .slice A7 x.change.schema.cols.length c7, .int .i64 x.change.schema.keys, .string x.change.column.name, .int .i64 x.change.column.kind, .bool x.change.column.none], .agg #[.int .i64 x.kind, .int .i64 x.num, .string x.table, .slice B3 x.before.length d3, .slice B4 x.after.length d4, .int .i64 x.change.kind, .string x.change.table, .slice B7 x.change.schema.cols.length d7, .int .i64 x.change.schema.keys, .string x.change.column.name, .int .i64 x.change.column.kind, .bool x.change.column.none]] w fun e w' => e = .returned (.bool true) ∧ Below w.heap.size w w' := by
  have HA3 := Aside0.mk hA3
  have HBb3 := Aside0.mk hB3
  have HA4 := Aside0.mk hA4
  have HBb4 := Aside0.mk hB4
  have HA7 := Aside0.mk hA7
  have HB7 := Aside0.mk hB7
  clear hA3 hB3 hA4 hB4 hA7 hB7
  go_enter Tryz.func38, Tryz.ntmps38
  go_wp2_with fail
  have hW : Below w.heap.size w ((w.alloc (.cells #[.int .i64 x.kind, .int .i64 x.num, .string x.table, .slice A3 x.before.length c3, .slice A4 x.after.length c4, .int .i64 x.change.kind, .string x.change.table, .slice A7 x.change.schema.cols.length c7, .int .i64 x.change.schema.keys, .string x.change.column.name, .int .i64 x.change.column.kind, .bool x.change.column.none] 55)).alloc (.cells #[.int .i64 x.kind, .int .i64 x.num, .string x.table, .slice B3 x.before.length d3, .slice B4 x.after.length d4, .int .i64 x.change.kind, .string x.change.table, .slice B7 x.change.schema.cols.length d7, .int .i64 x.change.schema.keys, .string x.change.column.name, .int .i64 x.change.column.kind, .bool x.change.column.none] 55)) := below_alloc (below_alloc (Below.refl _ _) _) _
  have h0 : (((w.alloc (.cells #[.int .i64 x.kind, .int .i64 x.num, .string x.table, .slice A3 x.before.length c3, .slice A4 x.after.length c4, .int .i64 x.change.kind, .string x.change.table, .slice A7 x.change.schema.cols.length c7, .int .i64 x.change.schema.keys, .string x.change.column.name, .int .i64 x.change.column.kind, .bool x.change.column.none] 55)).alloc (.cells #[.int .i64 x.kind, .int .i64 x.num, .string x.table, .slice B3 x.before.length d3, .slice B4 x.after.length d4, .int .i64 x.change.kind, .string x.change.table, .slice B7 x.change.schema.cols.length d7, .int .i64 x.change.schema.keys, .string x.change.column.name, .int .i64 x.change.column.kind, .bool x.change.column.none] 55))).heap[w.heap.size]? = some (.cells #[.int .i64 x.kind, .int .i64 x.num, .string x.table, .slice A3 x.before.length c3, .slice A4 x.after.length c4, .int .i64 x.change.kind, .string x.change.table, .slice A7 x.change.schema.cols.length c7, .int .i64 x.change.schema.keys, .string x.change.column.name, .int .i64 x.change.column.kind, .bool x.change.column.none] 55 (0, 0)) := heap_alloc2_old _ _ _
  have h1 : (((w.alloc (.cells #[.int .i64 x.kind, .int .i64 x.num, .string x.table, .slice A3 x.before.length c3, .slice A4 x.after.length c4, .int .i64 x.change.kind, .string x.change.table, .slice A7 x.change.schema.cols.length c7, .int .i64 x.change.schema.keys, .string x.change.column.name, .int .i64 x.change.column.kind, .bool x.change.column.none] 55)).alloc (.cells #[.int .i64 x.kind, .int .i64 x.num, .string x.table, .slice B3 x.before.length d3, .slice B4 x.after.length d4, .int .i64 x.change.kind, .string x.change.table, .slice B7 x.change.schema.cols.length d7, .int .i64 x.change.schema.keys, .string x.change.column.name, .int .i64 x.change.column.kind, .bool x.change.column.none] 55))).heap[w.heap.size + 1]? = some (.cells #[.int .i64 x.kind, .int .i64 x.num, .string x.table, .slice B3 x.before.length d3, .slice B4 x.after.length d4, .int .i64 x.change.kind, .string x.change.table, .slice B7 x.change.schema.cols.length d7, .int .i64 x.change.schema.keys, .string x.change.column.name, .int .i64 x.change.column.kind, .bool x.change.column.none] 55 (0, 0)) := heap_alloc2_new _ _ _
  have hs : w.heap.size + 2 ≤ (((w.alloc (.cells #[.int .i64 x.kind, .int .i64 x.num, .string x.table, .slice A3 x.before.length c3, .slice A4 x.after.length c4, .int .i64 x.change.kind, .string x.change.table, .slice A7 x.change.schema.cols.length c7, .int .i64 x.change.schema.keys, .string x.change.column.name, .int .i64 x.change.column.kind, .bool x.change.column.none] 55)).alloc (.cells #[.int .i64 x.kind, .int .i64 x.num, .string x.table, .slice B3 x.before.length d3, .slice B4 x.after.length d4, .int .i64 x.change.kind, .string x.change.table, .slice B7 x.change.schema.cols.length d7, .int .i64 x.change.schema.keys, .string x.change.column.name, .int .i64 x.change.column.kind, .bool x.change.column.none] 55))).heap.size := by simp
  generalize ((w.alloc (.cells #[.int .i64 x.kind, .int .i64 x.num, .string x.table, .slice A3 x.before.length c3, .slice A4 x.after.length c4, .int .i64 x.change.kind, .string x.change.table, .slice A7 x.change.schema.cols.length c7, .int .i64 x.change.schema.keys, .string x.change.column.name, .int .i64 x.change.column.kind, .bool x.change.column.none] 55)).alloc (.cells #[.int .i64 x.kind, .int .i64 x.num, .string x.table, .slice B3 x.before.length d3, .slice B4 x.after.length d4, .int .i64 x.change.kind, .string x.change.table, .slice B7 x.change.schema.cols.length d7, .int .i64 x.change.schema.keys, .string x.change.column.name, .int .i64 x.change.column.kind, .bool x.change.column.none] 55)) = W1 at *
  have HW := Aside0.mk hW
  have H0 := Aside0.mk h0
  have H1 := Aside0.mk h1
  have HS := Aside0.mk hs
  clear hW h0 h1 hs
  have P := Aside0.mk (fun W (h : Below W1.heap.size W1 W) => sameChg A7 B7 c7 d7 x.change W (Kd.C_below HA7.out (HW.out.trans (h.mono (by have := HS.out; omega)))) (Kd.C_below HB7.out (HW.out.trans (h.mono (by have := HS.out; omega)))))
  have P3 := Aside0.mk (fun W (h : Below W1.heap.size W1 W) => same03 A3 B3 c3 d3 x.before W (Kd.C_below HA3.out (HW.out.trans (h.mono (by have := HS.out; omega)))) (Kd.C_below HBb3.out (HW.out.trans (h.mono (by have := HS.out; omega)))))
  have P4 := Aside0.mk (fun W (h : Below W1.heap.size W1 W) => same03 A4 B4 c4 d4 x.after W (Kd.C_below HA4.out (HW.out.trans (h.mono (by have := HS.out; omega)))) (Kd.C_below HBb4.out (HW.out.trans (h.mono (by have := HS.out; omega)))))
  have a0 : W1.cell? ⟨w.heap.size, 0, none⟩ = some (.int .i64 x.kind) := cell_of_row W1 _ 0 _ _ _ H0.out
  have a1 : W1.cell? ⟨w.heap.size, 1, none⟩ = some (.int .i64 x.num) := cell_of_row W1 _ 1 _ _ _ H0.out
  have a2 : W1.cell? ⟨w.heap.size, 2, none⟩ = some (.string x.table) := cell_of_row W1 _ 2 _ _ _ H0.out
  have a3 : W1.cell? ⟨w.heap.size, 3, none⟩ = some (.slice A3 x.before.length c3) := cell_of_row W1 _ 3 _ _ _ H0.out
  have a4 : W1.cell? ⟨w.heap.size, 4, none⟩ = some (.slice A4 x.after.length c4) := cell_of_row W1 _ 4 _ _ _ H0.out
  have a5 : W1.cell? ⟨w.heap.size, 5, none⟩ = some (.int .i64 x.change.kind) := cell_of_row W1 _ 5 _ _ _ H0.out
  have a6 : W1.cell? ⟨w.heap.size, 6, none⟩ = some (.string x.change.table) := cell_of_row W1 _ 6 _ _ _ H0.out
  have a7 : W1.cell? ⟨w.heap.size, 7, none⟩ = some (.slice A7 x.change.schema.cols.length c7) := cell_of_row W1 _ 7 _ _ _ H0.out
  have a8 : W1.cell? ⟨w.heap.size, 8, none⟩ = some (.int .i64 x.change.schema.keys) := cell_of_row W1 _ 8 _ _ _ H0.out
  have a9 : W1.cell? ⟨w.heap.size, 9, none⟩ = some (.string x.change.column.name) := cell_of_row W1 _ 9 _ _ _ H0.out
  have a10 : W1.cell? ⟨w.heap.size, 10, none⟩ = some (.int .i64 x.change.column.kind) := cell_of_row W1 _ 10 _ _ _ H0.out
  have a11 : W1.cell? ⟨w.heap.size, 11, none⟩ = some (.bool x.change.column.none) := cell_of_row W1 _ 11 _ _ _ H0.out
  have b0 : W1.cell? ⟨w.heap.size + 1, 0, none⟩ = some (.int .i64 x.kind) := cell_of_row W1 _ 0 _ _ _ H1.out
  have b1 : W1.cell? ⟨w.heap.size + 1, 1, none⟩ = some (.int .i64 x.num) := cell_of_row W1 _ 1 _ _ _ H1.out
  have b2 : W1.cell? ⟨w.heap.size + 1, 2, none⟩ = some (.string x.table) := cell_of_row W1 _ 2 _ _ _ H1.out
  have b3 : W1.cell? ⟨w.heap.size + 1, 3, none⟩ = some (.slice B3 x.before.length d3) := cell_of_row W1 _ 3 _ _ _ H1.out
  have b4 : W1.cell? ⟨w.heap.size + 1, 4, none⟩ = some (.slice B4 x.after.length d4) := cell_of_row W1 _ 4 _ _ _ H1.out
  have b5 : W1.cell? ⟨w.heap.size + 1, 5, none⟩ = some (.int .i64 x.change.kind) := cell_of_row W1 _ 5 _ _ _ H1.out
  have b6 : W1.cell? ⟨w.heap.size + 1, 6, none⟩ = some (.string x.change.table) := cell_of_row W1 _ 6 _ _ _ H1.out
  have b7 : W1.cell? ⟨w.heap.size + 1, 7, none⟩ = some (.slice B7 x.change.schema.cols.length d7) := cell_of_row W1 _ 7 _ _ _ H1.out
  have b8 : W1.cell? ⟨w.heap.size + 1, 8, none⟩ = some (.int .i64 x.change.schema.keys) := cell_of_row W1 _ 8 _ _ _ H1.out
  have b9 : W1.cell? ⟨w.heap.size + 1, 9, none⟩ = some (.string x.change.column.name) := cell_of_row W1 _ 9 _ _ _ H1.out
  have b10 : W1.cell? ⟨w.heap.size + 1, 10, none⟩ = some (.int .i64 x.change.column.kind) := cell_of_row W1 _ 10 _ _ _ H1.out
  have b11 : W1.cell? ⟨w.heap.size + 1, 11, none⟩ = some (.bool x.change.column.none) := cell_of_row W1 _ 11 _ _ _ H1.out
  go_wp2_with (first
    | (go_at_call 44; (with_reducible refine (P.out _ (Below.refl _ _)).mono ?_); rintro e w2 ⟨rfl, hb2⟩; have HB2 := Aside0.mk (hb2); clear hb2; clear a0 a1 a2 a3 a4 a5 a6 a7 a8 a9 a10 a11 b0 b1 b2 b3 b4 b5 b6 b7 b8 b9 b10 b11; have a'0 : w2.cell? ⟨w.heap.size, 0, none⟩ = some (.int .i64 x.kind) := pw_cell_below HB2.out (cell_of_row W1 _ 0 _ _ _ H0.out); have a'1 : w2.cell? ⟨w.heap.size, 1, none⟩ = some (.int .i64 x.num) := pw_cell_below HB2.out (cell_of_row W1 _ 1 _ _ _ H0.out); have a'2 : w2.cell? ⟨w.heap.size, 2, none⟩ = some (.string x.table) := pw_cell_below HB2.out (cell_of_row W1 _ 2 _ _ _ H0.out); have a'3 : w2.cell? ⟨w.heap.size, 3, none⟩ = some (.slice A3 x.before.length c3) := pw_cell_below HB2.out (cell_of_row W1 _ 3 _ _ _ H0.out); have a'4 : w2.cell? ⟨w.heap.size, 4, none⟩ = some (.slice A4 x.after.length c4) := pw_cell_below HB2.out (cell_of_row W1 _ 4 _ _ _ H0.out); have a'5 : w2.cell? ⟨w.heap.size, 5, none⟩ = some (.int .i64 x.change.kind) := pw_cell_below HB2.out (cell_of_row W1 _ 5 _ _ _ H0.out); have a'6 : w2.cell? ⟨w.heap.size, 6, none⟩ = some (.string x.change.table) := pw_cell_below HB2.out (cell_of_row W1 _ 6 _ _ _ H0.out); have a'7 : w2.cell? ⟨w.heap.size, 7, none⟩ = some (.slice A7 x.change.schema.cols.length c7) := pw_cell_below HB2.out (cell_of_row W1 _ 7 _ _ _ H0.out); have a'8 : w2.cell? ⟨w.heap.size, 8, none⟩ = some (.int .i64 x.change.schema.keys) := pw_cell_below HB2.out (cell_of_row W1 _ 8 _ _ _ H0.out); have a'9 : w2.cell? ⟨w.heap.size, 9, none⟩ = some (.string x.change.column.name) := pw_cell_below HB2.out (cell_of_row W1 _ 9 _ _ _ H0.out); have a'10 : w2.cell? ⟨w.heap.size, 10, none⟩ = some (.int .i64 x.change.column.kind) := pw_cell_below HB2.out (cell_of_row W1 _ 10 _ _ _ H0.out); have a'11 : w2.cell? ⟨w.heap.size, 11, none⟩ = some (.bool x.change.column.none) := pw_cell_below HB2.out (cell_of_row W1 _ 11 _ _ _ H0.out); have b'0 : w2.cell? ⟨w.heap.size + 1, 0, none⟩ = some (.int .i64 x.kind) := pw_cell_below HB2.out (cell_of_row W1 _ 0 _ _ _ H1.out); have b'1 : w2.cell? ⟨w.heap.size + 1, 1, none⟩ = some (.int .i64 x.num) := pw_cell_below HB2.out (cell_of_row W1 _ 1 _ _ _ H1.out); have b'2 : w2.cell? ⟨w.heap.size + 1, 2, none⟩ = some (.string x.table) := pw_cell_below HB2.out (cell_of_row W1 _ 2 _ _ _ H1.out); have b'3 : w2.cell? ⟨w.heap.size + 1, 3, none⟩ = some (.slice B3 x.before.length d3) := pw_cell_below HB2.out (cell_of_row W1 _ 3 _ _ _ H1.out); have b'4 : w2.cell? ⟨w.heap.size + 1, 4, none⟩ = some (.slice B4 x.after.length d4) := pw_cell_below HB2.out (cell_of_row W1 _ 4 _ _ _ H1.out); have b'5 : w2.cell? ⟨w.heap.size + 1, 5, none⟩ = some (.int .i64 x.change.kind) := pw_cell_below HB2.out (cell_of_row W1 _ 5 _ _ _ H1.out); have b'6 : w2.cell? ⟨w.heap.size + 1, 6, none⟩ = some (.string x.change.table) := pw_cell_below HB2.out (cell_of_row W1 _ 6 _ _ _ H1.out); have b'7 : w2.cell? ⟨w.heap.size + 1, 7, none⟩ = some (.slice B7 x.change.schema.cols.length d7) := pw_cell_below HB2.out (cell_of_row W1 _ 7 _ _ _ H1.out); have b'8 : w2.cell? ⟨w.heap.size + 1, 8, none⟩ = some (.int .i64 x.change.schema.keys) := pw_cell_below HB2.out (cell_of_row W1 _ 8 _ _ _ H1.out); have b'9 : w2.cell? ⟨w.heap.size + 1, 9, none⟩ = some (.string x.change.column.name) := pw_cell_below HB2.out (cell_of_row W1 _ 9 _ _ _ H1.out); have b'10 : w2.cell? ⟨w.heap.size + 1, 10, none⟩ = some (.int .i64 x.change.column.kind) := pw_cell_below HB2.out (cell_of_row W1 _ 10 _ _ _ H1.out); have b'11 : w2.cell? ⟨w.heap.size + 1, 11, none⟩ = some (.bool x.change.column.none) := pw_cell_below HB2.out (cell_of_row W1 _ 11 _ _ _ H1.out))
    | (go_at_call 67; (with_reducible refine (P3.out _ HB2.out).mono ?_); rintro e w3 ⟨rfl, hb3⟩; have HB3 := Aside0.mk (HB2.out.trans (hb3.mono (HB2.out.size))); clear hb3; clear a'0 a'1 a'2 a'3 a'4 a'5 a'6 a'7 a'8 a'9 a'10 a'11 b'0 b'1 b'2 b'3 b'4 b'5 b'6 b'7 b'8 b'9 b'10 b'11; have a''0 : w3.cell? ⟨w.heap.size, 0, none⟩ = some (.int .i64 x.kind) := pw_cell_below HB3.out (cell_of_row W1 _ 0 _ _ _ H0.out); have a''1 : w3.cell? ⟨w.heap.size, 1, none⟩ = some (.int .i64 x.num) := pw_cell_below HB3.out (cell_of_row W1 _ 1 _ _ _ H0.out); have a''2 : w3.cell? ⟨w.heap.size, 2, none⟩ = some (.string x.table) := pw_cell_below HB3.out (cell_of_row W1 _ 2 _ _ _ H0.out); have a''3 : w3.cell? ⟨w.heap.size, 3, none⟩ = some (.slice A3 x.before.length c3) := pw_cell_below HB3.out (cell_of_row W1 _ 3 _ _ _ H0.out); have a''4 : w3.cell? ⟨w.heap.size, 4, none⟩ = some (.slice A4 x.after.length c4) := pw_cell_below HB3.out (cell_of_row W1 _ 4 _ _ _ H0.out); have a''5 : w3.cell? ⟨w.heap.size, 5, none⟩ = some (.int .i64 x.change.kind) := pw_cell_below HB3.out (cell_of_row W1 _ 5 _ _ _ H0.out); have a''6 : w3.cell? ⟨w.heap.size, 6, none⟩ = some (.string x.change.table) := pw_cell_below HB3.out (cell_of_row W1 _ 6 _ _ _ H0.out); have a''7 : w3.cell? ⟨w.heap.size, 7, none⟩ = some (.slice A7 x.change.schema.cols.length c7) := pw_cell_below HB3.out (cell_of_row W1 _ 7 _ _ _ H0.out); have a''8 : w3.cell? ⟨w.heap.size, 8, none⟩ = some (.int .i64 x.change.schema.keys) := pw_cell_below HB3.out (cell_of_row W1 _ 8 _ _ _ H0.out); have a''9 : w3.cell? ⟨w.heap.size, 9, none⟩ = some (.string x.change.column.name) := pw_cell_below HB3.out (cell_of_row W1 _ 9 _ _ _ H0.out); have a''10 : w3.cell? ⟨w.heap.size, 10, none⟩ = some (.int .i64 x.change.column.kind) := pw_cell_below HB3.out (cell_of_row W1 _ 10 _ _ _ H0.out); have a''11 : w3.cell? ⟨w.heap.size, 11, none⟩ = some (.bool x.change.column.none) := pw_cell_below HB3.out (cell_of_row W1 _ 11 _ _ _ H0.out); have b''0 : w3.cell? ⟨w.heap.size + 1, 0, none⟩ = some (.int .i64 x.kind) := pw_cell_below HB3.out (cell_of_row W1 _ 0 _ _ _ H1.out); have b''1 : w3.cell? ⟨w.heap.size + 1, 1, none⟩ = some (.int .i64 x.num) := pw_cell_below HB3.out (cell_of_row W1 _ 1 _ _ _ H1.out); have b''2 : w3.cell? ⟨w.heap.size + 1, 2, none⟩ = some (.string x.table) := pw_cell_below HB3.out (cell_of_row W1 _ 2 _ _ _ H1.out); have b''3 : w3.cell? ⟨w.heap.size + 1, 3, none⟩ = some (.slice B3 x.before.length d3) := pw_cell_below HB3.out (cell_of_row W1 _ 3 _ _ _ H1.out); have b''4 : w3.cell? ⟨w.heap.size + 1, 4, none⟩ = some (.slice B4 x.after.length d4) := pw_cell_below HB3.out (cell_of_row W1 _ 4 _ _ _ H1.out); have b''5 : w3.cell? ⟨w.heap.size + 1, 5, none⟩ = some (.int .i64 x.change.kind) := pw_cell_below HB3.out (cell_of_row W1 _ 5 _ _ _ H1.out); have b''6 : w3.cell? ⟨w.heap.size + 1, 6, none⟩ = some (.string x.change.table) := pw_cell_below HB3.out (cell_of_row W1 _ 6 _ _ _ H1.out); have b''7 : w3.cell? ⟨w.heap.size + 1, 7, none⟩ = some (.slice B7 x.change.schema.cols.length d7) := pw_cell_below HB3.out (cell_of_row W1 _ 7 _ _ _ H1.out); have b''8 : w3.cell? ⟨w.heap.size + 1, 8, none⟩ = some (.int .i64 x.change.schema.keys) := pw_cell_below HB3.out (cell_of_row W1 _ 8 _ _ _ H1.out); have b''9 : w3.cell? ⟨w.heap.size + 1, 9, none⟩ = some (.string x.change.column.name) := pw_cell_below HB3.out (cell_of_row W1 _ 9 _ _ _ H1.out); have b''10 : w3.cell? ⟨w.heap.size + 1, 10, none⟩ = some (.int .i64 x.change.column.kind) := pw_cell_below HB3.out (cell_of_row W1 _ 10 _ _ _ H1.out); have b''11 : w3.cell? ⟨w.heap.size + 1, 11, none⟩ = some (.bool x.change.column.none) := pw_cell_below HB3.out (cell_of_row W1 _ 11 _ _ _ H1.out))
    | (go_at_call 67; (with_reducible refine (P4.out _ HB3.out).mono ?_); rintro e w4 ⟨rfl, hb4⟩; have HB4 := Aside0.mk (HB3.out.trans (hb4.mono (HB3.out.size))); clear hb4; clear a''0 a''1 a''2 a''3 a''4 a''5 a''6 a''7 a''8 a''9 a''10 a''11 b''0 b''1 b''2 b''3 b''4 b''5 b''6 b''7 b''8 b''9 b''10 b''11; have a'''0 : w4.cell? ⟨w.heap.size, 0, none⟩ = some (.int .i64 x.kind) := pw_cell_below HB4.out (cell_of_row W1 _ 0 _ _ _ H0.out); have a'''1 : w4.cell? ⟨w.heap.size, 1, none⟩ = some (.int .i64 x.num) := pw_cell_below HB4.out (cell_of_row W1 _ 1 _ _ _ H0.out); have a'''2 : w4.cell? ⟨w.heap.size, 2, none⟩ = some (.string x.table) := pw_cell_below HB4.out (cell_of_row W1 _ 2 _ _ _ H0.out); have a'''3 : w4.cell? ⟨w.heap.size, 3, none⟩ = some (.slice A3 x.before.length c3) := pw_cell_below HB4.out (cell_of_row W1 _ 3 _ _ _ H0.out); have a'''4 : w4.cell? ⟨w.heap.size, 4, none⟩ = some (.slice A4 x.after.length c4) := pw_cell_below HB4.out (cell_of_row W1 _ 4 _ _ _ H0.out); have a'''5 : w4.cell? ⟨w.heap.size, 5, none⟩ = some (.int .i64 x.change.kind) := pw_cell_below HB4.out (cell_of_row W1 _ 5 _ _ _ H0.out); have a'''6 : w4.cell? ⟨w.heap.size, 6, none⟩ = some (.string x.change.table) := pw_cell_below HB4.out (cell_of_row W1 _ 6 _ _ _ H0.out); have a'''7 : w4.cell? ⟨w.heap.size, 7, none⟩ = some (.slice A7 x.change.schema.cols.length c7) := pw_cell_below HB4.out (cell_of_row W1 _ 7 _ _ _ H0.out); have a'''8 : w4.cell? ⟨w.heap.size, 8, none⟩ = some (.int .i64 x.change.schema.keys) := pw_cell_below HB4.out (cell_of_row W1 _ 8 _ _ _ H0.out); have a'''9 : w4.cell? ⟨w.heap.size, 9, none⟩ = some (.string x.change.column.name) := pw_cell_below HB4.out (cell_of_row W1 _ 9 _ _ _ H0.out); have a'''10 : w4.cell? ⟨w.heap.size, 10, none⟩ = some (.int .i64 x.change.column.kind) := pw_cell_below HB4.out (cell_of_row W1 _ 10 _ _ _ H0.out); have a'''11 : w4.cell? ⟨w.heap.size, 11, none⟩ = some (.bool x.change.column.none) := pw_cell_below HB4.out (cell_of_row W1 _ 11 _ _ _ H0.out); have b'''0 : w4.cell? ⟨w.heap.size + 1, 0, none⟩ = some (.int .i64 x.kind) := pw_cell_below HB4.out (cell_of_row W1 _ 0 _ _ _ H1.out); have b'''1 : w4.cell? ⟨w.heap.size + 1, 1, none⟩ = some (.int .i64 x.num) := pw_cell_below HB4.out (cell_of_row W1 _ 1 _ _ _ H1.out); have b'''2 : w4.cell? ⟨w.heap.size + 1, 2, none⟩ = some (.string x.table) := pw_cell_below HB4.out (cell_of_row W1 _ 2 _ _ _ H1.out); have b'''3 : w4.cell? ⟨w.heap.size + 1, 3, none⟩ = some (.slice B3 x.before.length d3) := pw_cell_below HB4.out (cell_of_row W1 _ 3 _ _ _ H1.out); have b'''4 : w4.cell? ⟨w.heap.size + 1, 4, none⟩ = some (.slice B4 x.after.length d4) := pw_cell_below HB4.out (cell_of_row W1 _ 4 _ _ _ H1.out); have b'''5 : w4.cell? ⟨w.heap.size + 1, 5, none⟩ = some (.int .i64 x.change.kind) := pw_cell_below HB4.out (cell_of_row W1 _ 5 _ _ _ H1.out); have b'''6 : w4.cell? ⟨w.heap.size + 1, 6, none⟩ = some (.string x.change.table) := pw_cell_below HB4.out (cell_of_row W1 _ 6 _ _ _ H1.out); have b'''7 : w4.cell? ⟨w.heap.size + 1, 7, none⟩ = some (.slice B7 x.change.schema.cols.length d7) := pw_cell_below HB4.out (cell_of_row W1 _ 7 _ _ _ H1.out); have b'''8 : w4.cell? ⟨w.heap.size + 1, 8, none⟩ = some (.int .i64 x.change.schema.keys) := pw_cell_below HB4.out (cell_of_row W1 _ 8 _ _ _ H1.out); have b'''9 : w4.cell? ⟨w.heap.size + 1, 9, none⟩ = some (.string x.change.column.name) := pw_cell_below HB4.out (cell_of_row W1 _ 9 _ _ _ H1.out); have b'''10 : w4.cell? ⟨w.heap.size + 1, 10, none⟩ = some (.int .i64 x.change.column.kind) := pw_cell_below HB4.out (cell_of_row W1 _ 10 _ _ _ H1.out); have b'''11 : w4.cell? ⟨w.heap.size + 1, 11, none⟩ = some (.bool x.change.column.none) := pw_cell_below HB4.out (cell_of_row W1 _ 11 _ _ _ H1.out)))
  go_ret
  exact ⟨rfl, HW.out.trans (HB4.out.mono (by have := HS.out; omega))⟩
end Go.Proofs.YtmdofdaiepilbaaGreatDoor

/- The document's comparison of writes tells that what reads alike is the same. -/
namespace Go.Proofs.YtmdofdaiepilbaaGreatDoor
open Go.RowKit Go.Proofs.YtmdofdaiepilbaaGreatDoorW.PrintWords
set_option linter.unusedVariables false
set_option linter.unusedSimpArgs false
theorem below_more {W w1 w2 : World} (h : Below W.heap.size W w1) (h2 : Below w1.heap.size w1 w2) : Below W.heap.size W w2 := h.trans (h2.mono h.size)
set_option maxRecDepth 100000 in
set_option maxHeartbeats 4000000 in
theorem same14 (A B : Option Addr) (c d : Nat) (xs : List Wri) (w : World) (hA : kWri.C w A xs.length xs) (hB : kWri.C w B xs.length xs) :
    Calls Tryz.prog 12 #[.slice A xs.length c, .slice B xs.length d] w fun e w' => e = .returned (.bool true) ∧ Below w.heap.size w w' := by
  have hlen : xs.length ≤ 9223372036854775807 := hA.2.1
  have HA := Aside0.mk hA
  have HB := Aside0.mk hB
  clear hA hB
  go_enter Tryz.func12, Tryz.ntmps12
  go_wp2
  go_loopw [5] (fun i wr => Below w.heap.size w wr ∧ ∃ k : Nat, k ≤ xs.length ∧ i = .int .i64 k) (fun i _ => xs.length - (intOf i).toNat)
  case atStart => exact ⟨Below.refl _ _, 0, by omega, rfl⟩
  case round =>
    obtain ⟨hbel, k, hk, rfl⟩ := hrel
    by_cases hlt : k < xs.length
    · obtain ⟨ad, A2, c2, A5, c5, eA, d0, d1, d2, d3, d4, d5, d6, d7, d8, d9, l2, g2, l5, g5⟩ := at_Wri HA.out k hlt
      obtain ⟨bd, B2, e2, B5, e5, eB, f0, f1, f2, f3, f4, f5, f6, f7, f8, f9, m2, k2, m5, k5⟩ := at_Wri HB.out k hlt
      cases eA
      cases eB
      have D0 := Aside0.mk (fun (W : World) (h : Below w.heap.size w W) => (⟨pw_cell_below h d0, pw_cell_below h d1, pw_cell_below h d2, pw_cell_below h d3, pw_cell_below h d4, pw_cell_below h d5, pw_cell_below h d6, pw_cell_below h d7, pw_cell_below h d8, pw_cell_below h d9⟩ : And _ (And _ (And _ (And _ (And _ (And _ (And _ (And _ (And _ _))))))))))
      have F0 := Aside0.mk (fun (W : World) (h : Below w.heap.size w W) => (⟨pw_cell_below h f0, pw_cell_below h f1, pw_cell_below h f2, pw_cell_below h f3, pw_cell_below h f4, pw_cell_below h f5, pw_cell_below h f6, pw_cell_below h f7, pw_cell_below h f8, pw_cell_below h f9⟩ : And _ (And _ (And _ (And _ (And _ (And _ (And _ (And _ (And _ _))))))))))
      clear d0 d1 d2 d3 d4 d5 d6 d7 d8 d9 f0 f1 f2 f3 f4 f5 f6 f7 f8 f9
      obtain ⟨d0, d1, d2, d3, d4, d5, d6, d7, d8, d9⟩ := D0.out wr hbel
      generalize rdWri xs k = x at *
      have P := Aside0.mk (fun W (h : Below w.heap.size w W) => same06 none none A2 B2 A5 B5 0 0 c2 e2 c5 e5 ⟨x.kind, 0, x.table, [], x.row, x.change⟩ W (Kd.C_nil _ _) (Kd.C_nil _ _) (Kd.C_below g2 h) (Kd.C_below k2 h) (Kd.C_below g5 h) (Kd.C_below k5 h))
      have HBel := Aside0.mk hbel
      clear hbel l2 g2 l5 g5 m2 k2 m5 k5
      go_wp2
      go_region_held3 (fun W => W.cell? (ad.add (k * 10)) = some (.int .i64 x.kind) ∧ W.cell? ⟨(ad.add (k * 10)).block, (ad.add (k * 10)).off + 1, none⟩ = some (.string x.table) ∧ W.cell? ⟨(ad.add (k * 10)).block, (ad.add (k * 10)).off + 2, none⟩ = some (.slice A2 x.row.length c2) ∧ W.cell? ⟨(ad.add (k * 10)).block, (ad.add (k * 10)).off + 3, none⟩ = some (.int .i64 x.change.kind) ∧ W.cell? ⟨(ad.add (k * 10)).block, (ad.add (k * 10)).off + 4, none⟩ = some (.string x.change.table) ∧ W.cell? ⟨(ad.add (k * 10)).block, (ad.add (k * 10)).off + 5, none⟩ = some (.slice A5 x.change.schema.cols.length c5) ∧ W.cell? ⟨(ad.add (k * 10)).block, (ad.add (k * 10)).off + 6, none⟩ = some (.int .i64 x.change.schema.keys) ∧ W.cell? ⟨(ad.add (k * 10)).block, (ad.add (k * 10)).off + 7, none⟩ = some (.string x.change.column.name) ∧ W.cell? ⟨(ad.add (k * 10)).block, (ad.add (k * 10)).off + 8, none⟩ = some (.int .i64 x.change.column.kind) ∧ W.cell? ⟨(ad.add (k * 10)).block, (ad.add (k * 10)).off + 9, none⟩ = some (.bool x.change.column.none))
        (first | exact D0.out _ ((HBel.out).drew) | go_keep) (fail)
      go_wp2
      have hx1 : Below wr.heap.size wr ((wr.alloc (.cells #[.int .i64 x.kind, .int .i64 0, .string x.table, .slice none 0 0, .slice A2 x.row.length c2, .int .i64 x.change.kind, .string x.change.table, .slice A5 x.change.schema.cols.length c5, .int .i64 x.change.schema.keys, .string x.change.column.name, .int .i64 x.change.column.kind, .bool x.change.column.none] 55)).drew) := ((Below.refl _ _).alloc (Nat.le_refl _) _).drew
      have hy1 : ((wr.alloc (.cells #[.int .i64 x.kind, .int .i64 0, .string x.table, .slice none 0 0, .slice A2 x.row.length c2, .int .i64 x.change.kind, .string x.change.table, .slice A5 x.change.schema.cols.length c5, .int .i64 x.change.schema.keys, .string x.change.column.name, .int .i64 x.change.column.kind, .bool x.change.column.none] 55)).drew).heap[wr.heap.size]? = some (.cells #[.int .i64 x.kind, .int .i64 0, .string x.table, .slice none 0 0, .slice A2 x.row.length c2, .int .i64 x.change.kind, .string x.change.table, .slice A5 x.change.schema.cols.length c5, .int .i64 x.change.schema.keys, .string x.change.column.name, .int .i64 x.change.column.kind, .bool x.change.column.none] 55 (0, 0)) := heap_alloc_new _ _
      have hs1 : ((wr.alloc (.cells #[.int .i64 x.kind, .int .i64 0, .string x.table, .slice none 0 0, .slice A2 x.row.length c2, .int .i64 x.change.kind, .string x.change.table, .slice A5 x.change.schema.cols.length c5, .int .i64 x.change.schema.keys, .string x.change.column.name, .int .i64 x.change.column.kind, .bool x.change.column.none] 55)).drew).heap.size = wr.heap.size + 1 := by simp
      generalize (wr.alloc (.cells #[.int .i64 x.kind, .int .i64 0, .string x.table, .slice none 0 0, .slice A2 x.row.length c2, .int .i64 x.change.kind, .string x.change.table, .slice A5 x.change.schema.cols.length c5, .int .i64 x.change.schema.keys, .string x.change.column.name, .int .i64 x.change.column.kind, .bool x.change.column.none] 55)).drew = w1 at *
      have HX1 := Aside0.mk (below_more HBel.out hx1)
      have HY1 := Aside0.mk hy1
      have HS1 := Aside0.mk hs1
      clear hx1 hy1 hs1 d0 d1 d2 d3 d4 d5 d6 d7 d8 d9
      obtain ⟨f0, f1, f2, f3, f4, f5, f6, f7, f8, f9⟩ := F0.out w1 HX1.out
      go_region_held3 (fun W => W.cell? (bd.add (k * 10)) = some (.int .i64 x.kind) ∧ W.cell? ⟨(bd.add (k * 10)).block, (bd.add (k * 10)).off + 1, none⟩ = some (.string x.table) ∧ W.cell? ⟨(bd.add (k * 10)).block, (bd.add (k * 10)).off + 2, none⟩ = some (.slice B2 x.row.length e2) ∧ W.cell? ⟨(bd.add (k * 10)).block, (bd.add (k * 10)).off + 3, none⟩ = some (.int .i64 x.change.kind) ∧ W.cell? ⟨(bd.add (k * 10)).block, (bd.add (k * 10)).off + 4, none⟩ = some (.string x.change.table) ∧ W.cell? ⟨(bd.add (k * 10)).block, (bd.add (k * 10)).off + 5, none⟩ = some (.slice B5 x.change.schema.cols.length e5) ∧ W.cell? ⟨(bd.add (k * 10)).block, (bd.add (k * 10)).off + 6, none⟩ = some (.int .i64 x.change.schema.keys) ∧ W.cell? ⟨(bd.add (k * 10)).block, (bd.add (k * 10)).off + 7, none⟩ = some (.string x.change.column.name) ∧ W.cell? ⟨(bd.add (k * 10)).block, (bd.add (k * 10)).off + 8, none⟩ = some (.int .i64 x.change.column.kind) ∧ W.cell? ⟨(bd.add (k * 10)).block, (bd.add (k * 10)).off + 9, none⟩ = some (.bool x.change.column.none))
        (first | exact F0.out _ ((HX1.out).drew) | go_keep) (fail)
      have hx2 : Below w1.heap.size w1 ((w1.alloc (.cells #[.int .i64 x.kind, .int .i64 0, .string x.table, .slice none 0 0, .slice B2 x.row.length e2, .int .i64 x.change.kind, .string x.change.table, .slice B5 x.change.schema.cols.length e5, .int .i64 x.change.schema.keys, .string x.change.column.name, .int .i64 x.change.column.kind, .bool x.change.column.none] 55)).drew) := ((Below.refl _ _).alloc (Nat.le_refl _) _).drew
      have hy2 : ((w1.alloc (.cells #[.int .i64 x.kind, .int .i64 0, .string x.table, .slice none 0 0, .slice B2 x.row.length e2, .int .i64 x.change.kind, .string x.change.table, .slice B5 x.change.schema.cols.length e5, .int .i64 x.change.schema.keys, .string x.change.column.name, .int .i64 x.change.column.kind, .bool x.change.column.none] 55)).drew).heap[w1.heap.size]? = some (.cells #[.int .i64 x.kind, .int .i64 0, .string x.table, .slice none 0 0, .slice B2 x.row.length e2, .int .i64 x.change.kind, .string x.change.table, .slice B5 x.change.schema.cols.length e5, .int .i64 x.change.schema.keys, .string x.change.column.name, .int .i64 x.change.column.kind, .bool x.change.column.none] 55 (0, 0)) := heap_alloc_new _ _
      generalize (w1.alloc (.cells #[.int .i64 x.kind, .int .i64 0, .string x.table, .slice none 0 0, .slice B2 x.row.length e2, .int .i64 x.change.kind, .string x.change.table, .slice B5 x.change.schema.cols.length e5, .int .i64 x.change.schema.keys, .string x.change.column.name, .int .i64 x.change.column.kind, .bool x.change.column.none] 55)).drew = w2 at *
      have hya : w2.heap[wr.heap.size]? = some (.cells #[.int .i64 x.kind, .int .i64 0, .string x.table, .slice none 0 0, .slice A2 x.row.length c2, .int .i64 x.change.kind, .string x.change.table, .slice A5 x.change.schema.cols.length c5, .int .i64 x.change.schema.keys, .string x.change.column.name, .int .i64 x.change.column.kind, .bool x.change.column.none] 55 (0, 0)) := (hx2.block _ (by have := HS1.out; omega)).trans HY1.out
      have HX2 := Aside0.mk (below_more HX1.out hx2)
      clear hx2 f0 f1 f2 f3 f4 f5 f6 f7 f8 f9
      have p0 : w2.cell? ⟨wr.heap.size, 0, none⟩ = some (.int .i64 x.kind) := cell_of_row w2 _ 0 _ _ _ hya
      have p1 : w2.cell? ⟨wr.heap.size, 1, none⟩ = some (.int .i64 0) := cell_of_row w2 _ 1 _ _ _ hya
      have p2 : w2.cell? ⟨wr.heap.size, 2, none⟩ = some (.string x.table) := cell_of_row w2 _ 2 _ _ _ hya
      have p3 : w2.cell? ⟨wr.heap.size, 3, none⟩ = some (.slice none 0 0) := cell_of_row w2 _ 3 _ _ _ hya
      have p4 : w2.cell? ⟨wr.heap.size, 4, none⟩ = some (.slice A2 x.row.length c2) := cell_of_row w2 _ 4 _ _ _ hya
      have p5 : w2.cell? ⟨wr.heap.size, 5, none⟩ = some (.int .i64 x.change.kind) := cell_of_row w2 _ 5 _ _ _ hya
      have p6 : w2.cell? ⟨wr.heap.size, 6, none⟩ = some (.string x.change.table) := cell_of_row w2 _ 6 _ _ _ hya
      have p7 : w2.cell? ⟨wr.heap.size, 7, none⟩ = some (.slice A5 x.change.schema.cols.length c5) := cell_of_row w2 _ 7 _ _ _ hya
      have p8 : w2.cell? ⟨wr.heap.size, 8, none⟩ = some (.int .i64 x.change.schema.keys) := cell_of_row w2 _ 8 _ _ _ hya
      have p9 : w2.cell? ⟨wr.heap.size, 9, none⟩ = some (.string x.change.column.name) := cell_of_row w2 _ 9 _ _ _ hya
      have p10 : w2.cell? ⟨wr.heap.size, 10, none⟩ = some (.int .i64 x.change.column.kind) := cell_of_row w2 _ 10 _ _ _ hya
      have p11 : w2.cell? ⟨wr.heap.size, 11, none⟩ = some (.bool x.change.column.none) := cell_of_row w2 _ 11 _ _ _ hya
      have q0 : w2.cell? ⟨w1.heap.size, 0, none⟩ = some (.int .i64 x.kind) := cell_of_row w2 _ 0 _ _ _ hy2
      have q1 : w2.cell? ⟨w1.heap.size, 1, none⟩ = some (.int .i64 0) := cell_of_row w2 _ 1 _ _ _ hy2
      have q2 : w2.cell? ⟨w1.heap.size, 2, none⟩ = some (.string x.table) := cell_of_row w2 _ 2 _ _ _ hy2
      have q3 : w2.cell? ⟨w1.heap.size, 3, none⟩ = some (.slice none 0 0) := cell_of_row w2 _ 3 _ _ _ hy2
      have q4 : w2.cell? ⟨w1.heap.size, 4, none⟩ = some (.slice B2 x.row.length e2) := cell_of_row w2 _ 4 _ _ _ hy2
      have q5 : w2.cell? ⟨w1.heap.size, 5, none⟩ = some (.int .i64 x.change.kind) := cell_of_row w2 _ 5 _ _ _ hy2
      have q6 : w2.cell? ⟨w1.heap.size, 6, none⟩ = some (.string x.change.table) := cell_of_row w2 _ 6 _ _ _ hy2
      have q7 : w2.cell? ⟨w1.heap.size, 7, none⟩ = some (.slice B5 x.change.schema.cols.length e5) := cell_of_row w2 _ 7 _ _ _ hy2
      have q8 : w2.cell? ⟨w1.heap.size, 8, none⟩ = some (.int .i64 x.change.schema.keys) := cell_of_row w2 _ 8 _ _ _ hy2
      have q9 : w2.cell? ⟨w1.heap.size, 9, none⟩ = some (.string x.change.column.name) := cell_of_row w2 _ 9 _ _ _ hy2
      have q10 : w2.cell? ⟨w1.heap.size, 10, none⟩ = some (.int .i64 x.change.column.kind) := cell_of_row w2 _ 10 _ _ _ hy2
      have q11 : w2.cell? ⟨w1.heap.size, 11, none⟩ = some (.bool x.change.column.none) := cell_of_row w2 _ 11 _ _ _ hy2
      clear hya hy2
      go_wp2_with (go_at_call 38; refine (P.out _ HX2.out).mono ?_; rintro e w3 ⟨rfl, hb3⟩)
      go_roundw
      case rel => exact ⟨below_more HX2.out hb3, k + 1, by omega, by go_num⟩
      case measure => simp [intOf]; omega
    · obtain rfl : k = xs.length := by omega
      go_wp2
      go_ret
      exact ⟨rfl, hbel⟩
end Go.Proofs.YtmdofdaiepilbaaGreatDoor
