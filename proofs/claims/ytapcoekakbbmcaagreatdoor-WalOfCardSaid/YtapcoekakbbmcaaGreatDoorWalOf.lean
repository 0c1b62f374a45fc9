/- The law WalOf comes to true for every event. Conditions: the event reads so; its rows are below 2^47 bytes. -/
import Derived.Test.YtapcoekakbbmcaaGreatDoorWalCut
import Derived.Test.YtapcoekakbbmcaaGreatDoorEvOpen
import Derived.Test.YtapcoekakbbmcaaGreatDoorSame14
import Derived.Test.YtapcoekakbbmcaaGreatDoorWalLives
import Derived.Deep.DeepCutAuto
namespace Go.Proofs.YtapcoekakbbmcaaGreatDoor
open Go.RowKit Go.Proofs.YtapcoekakbbmcaaGreatDoorW.PrintWords Go.Proofs.YtapcoekakbbmcaaGreatDoorW.PrintMore
set_option linter.unusedVariables false
set_option linter.unusedSimpArgs false
theorem C_one {W : World} {b : Nat} {fz : Nat × Nat} {x : Wri} {cs : List Value} (h : W.heap[b]? = some (.cells cs.toArray 35 fz)) (hx : kWri.K W x cs) : kWri.C W (some ⟨b, 0, none⟩) [x].length [x] := by
  refine ⟨rfl, by simp, fun _ => ⟨_, rfl, fun j p hj => ?_⟩⟩
  rcases j with _ | j
  · simp only [List.getElem?_cons_zero, Option.some.injEq] at hj
    subst hj
    refine ⟨cs, ?_, hx, fun i u hu => ?_⟩
    · obtain ⟨_, _, _, _, rfl, _⟩ := kWri_open hx
      rfl
    · rw [show (⟨b, 0, none⟩ : Addr).add (0 * kWri.sz + i) = ⟨b, i, none⟩ from by rw [Nat.zero_mul, Nat.zero_add]; exact add_plain _ _, cell_of_row W b i _ _ _ h]
      simpa using hu
  · simp at hj
def cutE (e : Ev) : Ev := ⟨e.kind, e.num, e.table, e.before, e.after, cutC e.change⟩
set_option maxRecDepth 100000 in
set_option maxHeartbeats 8000000 in
theorem walof_any (e : Ev) (A3 A4 A7 : Option Addr) (c3 c4 c7 : Nat) (w : World) (hA3 : kVal.C w A3 e.before.length e.before) (hA4 : kVal.C w A4 e.after.length e.after) (hA7 : kCol.C w A7 e.change.schema.cols.length e.change.schema.cols) (hc3 : e.before.length ≤ c3) (hc4 : e.after.length ≤ c4) (hc7 : e.change.schema.cols.length ≤ c7) (hn3 : e.before.length * 32 ≤ 140737488355328) (hn4 : e.after.length * 32 ≤ 140737488355328) :
    Calls Tryz.prog 3 #[.agg #[.int .i64 e.kind, .int .i64 e.num, .string e.table, .slice A3 e.before.length c3, .slice A4 e.after.length c4, .int .i64 e.change.kind, .string e.change.table, .slice A7 e.change.schema.cols.length c7, .int .i64 e.change.schema.keys, .string e.change.column.name, .int .i64 e.change.column.kind, .bool e.change.column.none]] w fun e w' => e = .returned (.bool true) ∧ Below w.heap.size w w' := by
  have HA3 := Aside0.mk hA3
  have HA4 := Aside0.mk hA4
  have hC7 : kCol.C w A7 (e.change.schema.cols.take (min e.change.schema.cols.length 20)).length (e.change.schema.cols.take (min e.change.schema.cols.length 20)) := Kd.C_take hA7 (by omega)
  have HC7 := Aside0.mk hC7
  have hl7 : (e.change.schema.cols.take (min e.change.schema.cols.length 20)).length = min e.change.schema.cols.length 20 := by rw [List.length_take]; omega
  have HL7 := Aside0.mk hl7
  clear hA3 hA4 hA7 hC7 hl7
  go_enter Tryz.func3, Tryz.ntmps3
  go_wp2_with fail
  have hr1 := heap_alloc_new w (.cells #[.int .i64 e.kind, .int .i64 e.num, .string e.table, .slice A3 e.before.length c3, .slice A4 e.after.length c4, .int .i64 e.change.kind, .string e.change.table, .slice A7 e.change.schema.cols.length c7, .int .i64 e.change.schema.keys, .string e.change.column.name, .int .i64 e.change.column.kind, .bool e.change.column.none] 32)
  have hb1 : Below w.heap.size w (w.alloc (.cells #[.int .i64 e.kind, .int .i64 e.num, .string e.table, .slice A3 e.before.length c3, .slice A4 e.after.length c4, .int .i64 e.change.kind, .string e.change.table, .slice A7 e.change.schema.cols.length c7, .int .i64 e.change.schema.keys, .string e.change.column.name, .int .i64 e.change.column.kind, .bool e.change.column.none] 32)) := (Below.refl _ _).alloc (Nat.le_refl _) _
  generalize w.alloc (.cells #[.int .i64 e.kind, .int .i64 e.num, .string e.table, .slice A3 e.before.length c3, .slice A4 e.after.length c4, .int .i64 e.change.kind, .string e.change.table, .slice A7 e.change.schema.cols.length c7, .int .i64 e.change.schema.keys, .string e.change.column.name, .int .i64 e.change.column.kind, .bool e.change.column.none] 32) = w1 at *
  refine (cut_calls e.change A7 c7 hc7 w1).mono ?_
  rintro en w2 ⟨rfl, hb2⟩
  have hr2 := (hb2.block w.heap.size (Array.getElem?_eq_some_iff.1 hr1).1).trans hr1
  have HB2 := Aside0.mk (hb1.trans (hb2.mono hb1.size))
  have HR2 := Aside0.mk hr2
  have b0 : w2.cell? ⟨w.heap.size, 0, none⟩ = some (.int .i64 e.kind) := cell_of_row w2 _ 0 _ _ _ hr2
  have z0 := frozen_of_row w2 w.heap.size 0 _ _ hr2
  have b1 : w2.cell? ⟨w.heap.size, 1, none⟩ = some (.int .i64 e.num) := cell_of_row w2 _ 1 _ _ _ hr2
  have z1 := frozen_of_row w2 w.heap.size 1 _ _ hr2
  have b2 : w2.cell? ⟨w.heap.size, 2, none⟩ = some (.string e.table) := cell_of_row w2 _ 2 _ _ _ hr2
  have z2 := frozen_of_row w2 w.heap.size 2 _ _ hr2
  have b3 : w2.cell? ⟨w.heap.size, 3, none⟩ = some (.slice A3 e.before.length c3) := cell_of_row w2 _ 3 _ _ _ hr2
  have z3 := frozen_of_row w2 w.heap.size 3 _ _ hr2
  have b4 : w2.cell? ⟨w.heap.size, 4, none⟩ = some (.slice A4 e.after.length c4) := cell_of_row w2 _ 4 _ _ _ hr2
  have z4 := frozen_of_row w2 w.heap.size 4 _ _ hr2
  have b5 : w2.cell? ⟨w.heap.size, 5, none⟩ = some (.int .i64 e.change.kind) := cell_of_row w2 _ 5 _ _ _ hr2
  have z5 := frozen_of_row w2 w.heap.size 5 _ _ hr2
  have b6 : w2.cell? ⟨w.heap.size, 6, none⟩ = some (.string e.change.table) := cell_of_row w2 _ 6 _ _ _ hr2
  have z6 := frozen_of_row w2 w.heap.size 6 _ _ hr2
  have b7 : w2.cell? ⟨w.heap.size, 7, none⟩ = some (.slice A7 e.change.schema.cols.length c7) := cell_of_row w2 _ 7 _ _ _ hr2
  have z7 := frozen_of_row w2 w.heap.size 7 _ _ hr2
  have b8 : w2.cell? ⟨w.heap.size, 8, none⟩ = some (.int .i64 e.change.schema.keys) := cell_of_row w2 _ 8 _ _ _ hr2
  have z8 := frozen_of_row w2 w.heap.size 8 _ _ hr2
  have b9 : w2.cell? ⟨w.heap.size, 9, none⟩ = some (.string e.change.column.name) := cell_of_row w2 _ 9 _ _ _ hr2
  have z9 := frozen_of_row w2 w.heap.size 9 _ _ hr2
  have b10 : w2.cell? ⟨w.heap.size, 10, none⟩ = some (.int .i64 e.change.column.kind) := cell_of_row w2 _ 10 _ _ _ hr2
  have z10 := frozen_of_row w2 w.heap.size 10 _ _ hr2
  have b11 : w2.cell? ⟨w.heap.size, 11, none⟩ = some (.bool e.change.column.none) := cell_of_row w2 _ 11 _ _ _ hr2
  have z11 := frozen_of_row w2 w.heap.size 11 _ _ hr2
  clear hr1 hb1 hb2 hr2
  go_upto_region 2 with fail
  obtain ⟨w3, hw3⟩ : ∃ w3, (((((((w2).setCell ⟨w.heap.size, 5, none⟩ (.int .i64 e.change.kind)).setCell ⟨w.heap.size, 6, none⟩ (.string (cutS e.change.table))).setCell ⟨w.heap.size, 7, none⟩ (.slice A7 (min e.change.schema.cols.length 20) c7)).setCell ⟨w.heap.size, 8, none⟩ (.int .i64 e.change.schema.keys)).setCell ⟨w.heap.size, 9, none⟩ (.string (cutS e.change.column.name))).setCell ⟨w.heap.size, 10, none⟩ (.int .i64 e.change.column.kind)).setCell ⟨w.heap.size, 11, none⟩ (.bool e.change.column.none) = w3 := ⟨_, rfl⟩
  rw [hw3]
  have kr3 : w3.heap[w.heap.size]? = some (.cells #[.int .i64 e.kind, .int .i64 e.num, .string e.table, .slice A3 e.before.length c3, .slice A4 e.after.length c4, .int .i64 e.change.kind, .string (cutS e.change.table), .slice A7 (min e.change.schema.cols.length 20) c7, .int .i64 e.change.schema.keys, .string (cutS e.change.column.name), .int .i64 e.change.column.kind, .bool e.change.column.none] 32 (0, 0)) := by
    rw [← hw3]
    have h5 := heap_setCell_same w2 w.heap.size 5 _ _ (.int .i64 e.change.kind) HR2.out
    have h6 := heap_setCell_same _ w.heap.size 6 _ _ (.string (cutS e.change.table)) h5
    have h7 := heap_setCell_same _ w.heap.size 7 _ _ (.slice A7 (min e.change.schema.cols.length 20) c7) h6
    have h8 := heap_setCell_same _ w.heap.size 8 _ _ (.int .i64 e.change.schema.keys) h7
    have h9 := heap_setCell_same _ w.heap.size 9 _ _ (.string (cutS e.change.column.name)) h8
    have h10 := heap_setCell_same _ w.heap.size 10 _ _ (.int .i64 e.change.column.kind) h9
    have h11 := heap_setCell_same _ w.heap.size 11 _ _ (.bool e.change.column.none) h10
    exact h11
  have hb3 : Below w.heap.size w w3 := by rw [← hw3]; exact (((((((HB2.out.setCell (p := ⟨w.heap.size, 5, none⟩) (Nat.le_refl _) (.int .i64 e.change.kind)).setCell (p := ⟨w.heap.size, 6, none⟩) (Nat.le_refl _) (.string (cutS e.change.table))).setCell (p := ⟨w.heap.size, 7, none⟩) (Nat.le_refl _) (.slice A7 (min e.change.schema.cols.length 20) c7)).setCell (p := ⟨w.heap.size, 8, none⟩) (Nat.le_refl _) (.int .i64 e.change.schema.keys)).setCell (p := ⟨w.heap.size, 9, none⟩) (Nat.le_refl _) (.string (cutS e.change.column.name))).setCell (p := ⟨w.heap.size, 10, none⟩) (Nat.le_refl _) (.int .i64 e.change.column.kind)).setCell (p := ⟨w.heap.size, 11, none⟩) (Nat.le_refl _) (.bool e.change.column.none))
  have CF := Aside0.mk (fun (W : World) (h : Below w3.heap.size w3 W) => (show W.cell? ⟨w.heap.size, 0, none⟩ = some (.int .i64 e.kind) ∧ W.cell? ⟨w.heap.size, 1, none⟩ = some (.int .i64 e.num) ∧ W.cell? ⟨w.heap.size, 2, none⟩ = some (.string e.table) ∧ W.cell? ⟨w.heap.size, 3, none⟩ = some (.slice A3 e.before.length c3) ∧ W.cell? ⟨w.heap.size, 4, none⟩ = some (.slice A4 e.after.length c4) ∧ W.cell? ⟨w.heap.size, 5, none⟩ = some (.int .i64 e.change.kind) ∧ W.cell? ⟨w.heap.size, 6, none⟩ = some (.string (cutS e.change.table)) ∧ W.cell? ⟨w.heap.size, 7, none⟩ = some (.slice A7 (min e.change.schema.cols.length 20) c7) ∧ W.cell? ⟨w.heap.size, 8, none⟩ = some (.int .i64 e.change.schema.keys) ∧ W.cell? ⟨w.heap.size, 9, none⟩ = some (.string (cutS e.change.column.name)) ∧ W.cell? ⟨w.heap.size, 10, none⟩ = some (.int .i64 e.change.column.kind) ∧ W.cell? ⟨w.heap.size, 11, none⟩ = some (.bool e.change.column.none) from by
    have kr := (h.block w.heap.size (Array.getElem?_eq_some_iff.1 kr3).1).trans kr3
    exact ⟨cell_of_row W _ 0 _ _ _ kr, cell_of_row W _ 1 _ _ _ kr, cell_of_row W _ 2 _ _ _ kr, cell_of_row W _ 3 _ _ _ kr, cell_of_row W _ 4 _ _ _ kr, cell_of_row W _ 5 _ _ _ kr, cell_of_row W _ 6 _ _ _ kr, cell_of_row W _ 7 _ _ _ kr, cell_of_row W _ 8 _ _ _ kr, cell_of_row W _ 9 _ _ _ kr, cell_of_row W _ 10 _ _ _ kr, cell_of_row W _ 11 _ _ _ kr⟩))
  have HB3 := Aside0.mk hb3
  clear kr3 hb3 hw3 b0 z0 b1 z1 b2 z2 b3 z3 b4 z4 b5 z5 b6 z6 b7 z7 b8 z8 b9 z9 b10 z10 b11 z11
  have HOf := Aside0.mk (fun (W : World) (h : Below w3.heap.size w3 W) => (show Calls Tryz.prog 11 #[.agg #[.int .i64 e.kind, .int .i64 e.num, .string e.table, .slice A3 e.before.length c3, .slice A4 e.after.length c4, .int .i64 e.change.kind, .string (cutS e.change.table), .slice A7 (min e.change.schema.cols.length 20) c7, .int .i64 e.change.schema.keys, .string (cutS e.change.column.name), .int .i64 e.change.column.kind, .bool e.change.column.none]] W (OfTell W (writeOf (cutE e)) (ofB (cutE e))) from by
    have hbw := HB3.out.trans (h.mono HB3.out.size)
    have := wal_of (cutE e) A3 A4 A7 c3 c4 c7 W (Kd.C_below HA3.out hbw) (Kd.C_below HA4.out hbw) (Kd.C_below HC7.out hbw) hc3 hc4 (by rw [show (cutE e).change.schema.cols.length = min e.change.schema.cols.length 20 from HL7.out]; omega) hn3 hn4 (by rw [show (cutE e).change.schema.cols.length = min e.change.schema.cols.length 20 from HL7.out]; omega)
    rw [show (cutE e).change.schema.cols.length = min e.change.schema.cols.length 20 from HL7.out] at this
    exact this))
  have HRf := Aside0.mk (fun (W : World) (h : Below w3.heap.size w3 W) => (show Calls Tryz.prog 12 #[.agg #[.int .i64 e.kind, .int .i64 e.num, .string e.table, .slice A3 e.before.length c3, .slice A4 e.after.length c4, .int .i64 e.change.kind, .string (cutS e.change.table), .slice A7 (min e.change.schema.cols.length 20) c7, .int .i64 e.change.schema.keys, .string (cutS e.change.column.name), .int .i64 e.change.column.kind, .bool e.change.column.none]] W (OfTell W (writeOf (cutE e)) (ofB (cutE e))) from by
    have hbw := HB3.out.trans (h.mono HB3.out.size)
    have := ref_of (cutE e) A3 A4 A7 c3 c4 c7 W (Kd.C_below HA3.out hbw) (Kd.C_below HA4.out hbw) (Kd.C_below HC7.out hbw) hc3 hc4 (by rw [show (cutE e).change.schema.cols.length = min e.change.schema.cols.length 20 from HL7.out]; omega)
    rw [show (cutE e).change.schema.cols.length = min e.change.schema.cols.length 20 from HL7.out] at this
    exact this))
  generalize writeOf (cutE e) = x at *
  generalize ofB (cutE e) = ob at *
  obtain ⟨b0, b1, b2, b3, b4, b5, b6, b7, b8, b9, b10, b11⟩ := CF.out w3 (Below.refl _ _)
  go_wp2_with fail
  refine (HOf.out w3 (Below.refl _ _)).mono ?_
  rintro en w4 ⟨P2, p2, P5, p5, rfl, lp2, hP2, lp5, hP5, hb4⟩
  clear b0 b1 b2 b3 b4 b5 b6 b7 b8 b9 b10 b11
  go_upto_region 3 with fail
  have hx5 := heap_alloc_new w4 (.cells #[.int .i64 x.kind, .string x.table, .slice P2 x.row.length p2, .int .i64 x.change.kind, .string x.change.table, .slice P5 x.change.schema.cols.length p5, .int .i64 x.change.schema.keys, .string x.change.column.name, .int .i64 x.change.column.kind, .bool x.change.column.none] 35)
  have hb5 : Below w4.heap.size w4 (w4.alloc (.cells #[.int .i64 x.kind, .string x.table, .slice P2 x.row.length p2, .int .i64 x.change.kind, .string x.change.table, .slice P5 x.change.schema.cols.length p5, .int .i64 x.change.schema.keys, .string x.change.column.name, .int .i64 x.change.column.kind, .bool x.change.column.none] 35)) := (Below.refl _ _).alloc (Nat.le_refl _) _
  generalize w4.alloc (.cells #[.int .i64 x.kind, .string x.table, .slice P2 x.row.length p2, .int .i64 x.change.kind, .string x.change.table, .slice P5 x.change.schema.cols.length p5, .int .i64 x.change.schema.keys, .string x.change.column.name, .int .i64 x.change.column.kind, .bool x.change.column.none] 35) = w5 at *
  have HB5 := Aside0.mk (hb4.trans (hb5.mono hb4.size))
  have HX5 := Aside0.mk hx5
  have HP2 := Aside0.mk (Kd.C_below hP2 hb5)
  have HP5 := Aside0.mk (Kd.C_below hP5 hb5)
  clear hb4 hb5 hx5 hP2 hP5
  obtain ⟨b0, b1, b2, b3, b4, b5, b6, b7, b8, b9, b10, b11⟩ := CF.out w5 HB5.out
  go_wp2_with fail
  refine (HRf.out w5 HB5.out).mono ?_
  rintro en w6 ⟨Q2, q2, Q5, q5, rfl, lq2, hQ2, lq5, hQ5, hb6⟩
  clear b0 b1 b2 b3 b4 b5 b6 b7 b8 b9 b10 b11
  go_upto_region 4 with fail
  have hx7 := heap_alloc_new w6 (.cells #[.int .i64 x.kind, .string x.table, .slice Q2 x.row.length q2, .int .i64 x.change.kind, .string x.change.table, .slice Q5 x.change.schema.cols.length q5, .int .i64 x.change.schema.keys, .string x.change.column.name, .int .i64 x.change.column.kind, .bool x.change.column.none] 35)
  have hb7 : Below w6.heap.size w6 (w6.alloc (.cells #[.int .i64 x.kind, .string x.table, .slice Q2 x.row.length q2, .int .i64 x.change.kind, .string x.change.table, .slice Q5 x.change.schema.cols.length q5, .int .i64 x.change.schema.keys, .string x.change.column.name, .int .i64 x.change.column.kind, .bool x.change.column.none] 35)) := (Below.refl _ _).alloc (Nat.le_refl _) _
  generalize w6.alloc (.cells #[.int .i64 x.kind, .string x.table, .slice Q2 x.row.length q2, .int .i64 x.change.kind, .string x.change.table, .slice Q5 x.change.schema.cols.length q5, .int .i64 x.change.schema.keys, .string x.change.column.name, .int .i64 x.change.column.kind, .bool x.change.column.none] 35) = w7 at *
  have hb57 : Below w5.heap.size w5 w7 := hb6.trans (hb7.mono hb6.size)
  have hy7 := (hb57.block w4.heap.size (Array.getElem?_eq_some_iff.1 HX5.out).1).trans HX5.out
  have p10 : w7.cell? ⟨w4.heap.size, 0, none⟩ = some (.int .i64 x.kind) := cell_of_row w7 _ 0 _ _ _ hy7
  have q10 : w7.cell? ⟨w6.heap.size, 0, none⟩ = some (.int .i64 x.kind) := cell_of_row w7 _ 0 _ _ _ hx7
  have p11 : w7.cell? ⟨w4.heap.size, 1, none⟩ = some (.string x.table) := cell_of_row w7 _ 1 _ _ _ hy7
  have q11 : w7.cell? ⟨w6.heap.size, 1, none⟩ = some (.string x.table) := cell_of_row w7 _ 1 _ _ _ hx7
  have p12 : w7.cell? ⟨w4.heap.size, 2, none⟩ = some (.slice P2 x.row.length p2) := cell_of_row w7 _ 2 _ _ _ hy7
  have q12 : w7.cell? ⟨w6.heap.size, 2, none⟩ = some (.slice Q2 x.row.length q2) := cell_of_row w7 _ 2 _ _ _ hx7
  have p13 : w7.cell? ⟨w4.heap.size, 3, none⟩ = some (.int .i64 x.change.kind) := cell_of_row w7 _ 3 _ _ _ hy7
  have q13 : w7.cell? ⟨w6.heap.size, 3, none⟩ = some (.int .i64 x.change.kind) := cell_of_row w7 _ 3 _ _ _ hx7
  have p14 : w7.cell? ⟨w4.heap.size, 4, none⟩ = some (.string x.change.table) := cell_of_row w7 _ 4 _ _ _ hy7
  have q14 : w7.cell? ⟨w6.heap.size, 4, none⟩ = some (.string x.change.table) := cell_of_row w7 _ 4 _ _ _ hx7
  have p15 : w7.cell? ⟨w4.heap.size, 5, none⟩ = some (.slice P5 x.change.schema.cols.length p5) := cell_of_row w7 _ 5 _ _ _ hy7
  have q15 : w7.cell? ⟨w6.heap.size, 5, none⟩ = some (.slice Q5 x.change.schema.cols.length q5) := cell_of_row w7 _ 5 _ _ _ hx7
  have p16 : w7.cell? ⟨w4.heap.size, 6, none⟩ = some (.int .i64 x.change.schema.keys) := cell_of_row w7 _ 6 _ _ _ hy7
  have q16 : w7.cell? ⟨w6.heap.size, 6, none⟩ = some (.int .i64 x.change.schema.keys) := cell_of_row w7 _ 6 _ _ _ hx7
  have p17 : w7.cell? ⟨w4.heap.size, 7, none⟩ = some (.string x.change.column.name) := cell_of_row w7 _ 7 _ _ _ hy7
  have q17 : w7.cell? ⟨w6.heap.size, 7, none⟩ = some (.string x.change.column.name) := cell_of_row w7 _ 7 _ _ _ hx7
  have p18 : w7.cell? ⟨w4.heap.size, 8, none⟩ = some (.int .i64 x.change.column.kind) := cell_of_row w7 _ 8 _ _ _ hy7
  have q18 : w7.cell? ⟨w6.heap.size, 8, none⟩ = some (.int .i64 x.change.column.kind) := cell_of_row w7 _ 8 _ _ _ hx7
  have p19 : w7.cell? ⟨w4.heap.size, 9, none⟩ = some (.bool x.change.column.none) := cell_of_row w7 _ 9 _ _ _ hy7
  have q19 : w7.cell? ⟨w6.heap.size, 9, none⟩ = some (.bool x.change.column.none) := cell_of_row w7 _ 9 _ _ _ hx7
  have HB7 := Aside0.mk (HB3.out.trans ((HB5.out.trans (hb57.mono HB5.out.size)).mono HB3.out.size))
  have HP2' := Aside0.mk (Kd.C_below HP2.out hb57)
  have HP5' := Aside0.mk (Kd.C_below HP5.out hb57)
  have HQ2 := Aside0.mk (Kd.C_below hQ2 hb7)
  have HQ5 := Aside0.mk (Kd.C_below hQ5 hb7)
  have hb7a : Below w7.heap.size w7 (w7.alloc (.cells #[.int .i64 x.kind, .string x.table, .slice P2 x.row.length p2, .int .i64 x.change.kind, .string x.change.table, .slice P5 x.change.schema.cols.length p5, .int .i64 x.change.schema.keys, .string x.change.column.name, .int .i64 x.change.column.kind, .bool x.change.column.none] 35)) := (Below.refl _ _).alloc (Nat.le_refl _) _
  have r10 := pw_cell_below hb7a q10
  have r11 := pw_cell_below hb7a q11
  have r12 := pw_cell_below hb7a q12
  have r13 := pw_cell_below hb7a q13
  have r14 := pw_cell_below hb7a q14
  have r15 := pw_cell_below hb7a q15
  have r16 := pw_cell_below hb7a q16
  have r17 := pw_cell_below hb7a q17
  have r18 := pw_cell_below hb7a q18
  have r19 := pw_cell_below hb7a q19
  have hbeq : (ob == ob) = true := beq_self_eq_true ob
  clear hb7a q10 q11 q12 q13 q14 q15 q16 q17 q18 q19
  clear hb6 hb7 hb57 hx7 hy7 hQ2 hQ5
  go_wp2_with fail
  have hb8 : Below w7.heap.size w7 ((w7.alloc (.cells #[.int .i64 x.kind, .string x.table, .slice P2 x.row.length p2, .int .i64 x.change.kind, .string x.change.table, .slice P5 x.change.schema.cols.length p5, .int .i64 x.change.schema.keys, .string x.change.column.name, .int .i64 x.change.column.kind, .bool x.change.column.none] 35)).alloc (.cells #[.int .i64 x.kind, .string x.table, .slice Q2 x.row.length q2, .int .i64 x.change.kind, .string x.change.table, .slice Q5 x.change.schema.cols.length q5, .int .i64 x.change.schema.keys, .string x.change.column.name, .int .i64 x.change.column.kind, .bool x.change.column.none] 35)) := ((Below.refl _ _).alloc (Nat.le_refl _) _).alloc (by simp) _
  have hS := same14 (some ⟨w7.heap.size, 0, none⟩) (some ⟨w7.heap.size + 1, 0, none⟩) 1 1 [x] ((w7.alloc (.cells #[.int .i64 x.kind, .string x.table, .slice P2 x.row.length p2, .int .i64 x.change.kind, .string x.change.table, .slice P5 x.change.schema.cols.length p5, .int .i64 x.change.schema.keys, .string x.change.column.name, .int .i64 x.change.column.kind, .bool x.change.column.none] 35)).alloc (.cells #[.int .i64 x.kind, .string x.table, .slice Q2 x.row.length q2, .int .i64 x.change.kind, .string x.change.table, .slice Q5 x.change.schema.cols.length q5, .int .i64 x.change.schema.keys, .string x.change.column.name, .int .i64 x.change.column.kind, .bool x.change.column.none] 35)) (C_one (cs := [.int .i64 x.kind, .string x.table, .slice P2 x.row.length p2, .int .i64 x.change.kind, .string x.change.table, .slice P5 x.change.schema.cols.length p5, .int .i64 x.change.schema.keys, .string x.change.column.name, .int .i64 x.change.column.kind, .bool x.change.column.none]) (heap_alloc2_old _ _ _) (kWri_mk _ x lp2 (Kd.C_below HP2'.out hb8) lp5 (Kd.C_below HP5'.out hb8))) (C_one (cs := [.int .i64 x.kind, .string x.table, .slice Q2 x.row.length q2, .int .i64 x.change.kind, .string x.change.table, .slice Q5 x.change.schema.cols.length q5, .int .i64 x.change.schema.keys, .string x.change.column.name, .int .i64 x.change.column.kind, .bool x.change.column.none]) (heap_alloc2_new _ _ _) (kWri_mk _ x lq2 (Kd.C_below HQ2.out hb8) lq5 (Kd.C_below HQ5.out hb8)))
  have HB8 := Aside0.mk (HB7.out.trans (hb8.mono HB7.out.size))
  clear hb8 p10 p11 p12 p13 p14 p15 p16 p17 p18 p19 r10 r11 r12 r13 r14 r15 r16 r17 r18 r19
  generalize ((w7.alloc (.cells #[.int .i64 x.kind, .string x.table, .slice P2 x.row.length p2, .int .i64 x.change.kind, .string x.change.table, .slice P5 x.change.schema.cols.length p5, .int .i64 x.change.schema.keys, .string x.change.column.name, .int .i64 x.change.column.kind, .bool x.change.column.none] 35)).alloc (.cells #[.int .i64 x.kind, .string x.table, .slice Q2 x.row.length q2, .int .i64 x.change.kind, .string x.change.table, .slice Q5 x.change.schema.cols.length q5, .int .i64 x.change.schema.keys, .string x.change.column.name, .int .i64 x.change.column.kind, .bool x.change.column.none] 35)) = w8 at *
  refine hS.mono ?_
  rintro en w9 ⟨rfl, hb9⟩
  clear hS
  have HB9 := Aside0.mk (HB8.out.trans (hb9.mono HB8.out.size))
  clear hb9
  go_wp2_with (go_at_call 14; (with_reducible refine (lives_calls _).mono ?_); rintro en w10 ⟨rfl, hb10⟩)
  go_ret
  exact ⟨rfl, HB9.out.trans (hb10.mono HB9.out.size)⟩
theorem walof_row (w : World) (e : Ev) (A3 A4 A7 : Option Addr) (c3 c4 c7 : Nat) (hA3 : kVal.C w A3 e.before.length e.before) (hA4 : kVal.C w A4 e.after.length e.after) (hA7 : kCol.C w A7 e.change.schema.cols.length e.change.schema.cols) (hc3 : e.before.length ≤ c3) (hc4 : e.after.length ≤ c4) (hc7 : e.change.schema.cols.length ≤ c7) (hn3 : e.before.length * 32 ≤ 140737488355328) (hn4 : e.after.length * 32 ≤ 140737488355328) (ho : evOk e) :
    Calls Tryz.prog 3 #[.agg #[.int .i64 e.kind, .int .i64 e.num, .string e.table, .slice A3 e.before.length c3, .slice A4 e.after.length c4, .int .i64 e.change.kind, .string e.change.table, .slice A7 e.change.schema.cols.length c7, .int .i64 e.change.schema.keys, .string e.change.column.name, .int .i64 e.change.column.kind, .bool e.change.column.none]] w fun e w' => e = .returned (.bool true) ∧ Below w.heap.size w w' :=
  walof_any e A3 A4 A7 c3 c4 c7 w hA3 hA4 hA7 hc3 hc4 hc7 hn3 hn4
end Go.Proofs.YtapcoekakbbmcaaGreatDoor
