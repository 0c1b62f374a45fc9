/- The law's few: the first 12 writes, their names cut short. Printed by gen_few.py. -/
import Derived.Test.YtapcoekakbbmcaaGreatDoorWalCut
import Derived.Test.YtapcoekakbbmcaaGreatDoorSame14Ex
import Derived.Deep.DeepCutAuto
namespace Go.Proofs.YtapcoekakbbmcaaGreatDoor
open Go.RowKit Go.Proofs.YtapcoekakbbmcaaGreatDoorW.PrintWords Go.Proofs.YtapcoekakbbmcaaGreatDoorW.PrintMore
set_option linter.unusedVariables false
set_option linter.unusedSimpArgs false
theorem heapVal : Kd.Heap kVal := Kd.heap_iso _ (Kd.heap_pair (Kd.heap_int _) (Kd.heap_pair (Kd.heap_int _) Kd.heap_string))
theorem heapCol : Kd.Heap kCol := Kd.heap_iso _ (Kd.heap_pair Kd.heap_string (Kd.heap_pair (Kd.heap_int _) Kd.heap_bool))
theorem infoWri : (Tryz.prog.info? 35).map (fun i => (i.zero, i.size, i.bytes)) = some (some (.agg #[.int .i64 0, .string ⟨#[]⟩, .slice none 0 0, .int .i64 0, .string ⟨#[]⟩, .slice none 0 0, .int .i64 0, .string ⟨#[]⟩, .int .i64 0, .bool false]), kWri.sz, 136) := by kernel_rfl
def cutW (x : Wri) : Wri := ⟨x.kind, cutS x.table, x.row, cutC x.change⟩
def fewL (l : List Wri) : List Wri := (l.take 12).map cutW
theorem cutW_foot {w W : World} {x : Wri} {A2 A5 : Option Addr} {c2 c5 : Nat} (hb : Below w.heap.size w W) (g2 : kVal.C w A2 x.row.length x.row) (g5 : kCol.C w A5 x.change.schema.cols.length x.change.schema.cols) (l2 : x.row.length ≤ c2) (l5 : x.change.schema.cols.length ≤ c5) :
    Kd.FK kWri W (fun k => k < w.heap.size) (cutW x) [.int .i64 x.kind, .string (cutS x.table), .slice A2 x.row.length c2, .int .i64 x.change.kind, .string (cutS x.change.table), .slice A5 (min x.change.schema.cols.length 20) c5, .int .i64 x.change.schema.keys, .string (cutS x.change.column.name), .int .i64 x.change.column.kind, .bool x.change.column.none] := by
  intro W' hW
  have hk : ∀ k, k < w.heap.size → W'.heap[k]? = w.heap[k]? := fun k hk => (hW k hk (by have := hb.size; omega)).trans (hb.block k hk)
  have h5 : kCol.C W' A5 (cutC x.change).schema.cols.length (cutC x.change).schema.cols := by
    have := Kd.C_take (m := min x.change.schema.cols.length 20) (heapCol.C hk g5) (by omega)
    exact this
  have hl : min x.change.schema.cols.length 20 = (cutC x.change).schema.cols.length := by show _ = (x.change.schema.cols.take _).length; rw [List.length_take]; omega
  rw [hl]
  exact kWri_mk W' (cutW x) l2 (heapVal.C hk g2) (by show (cutC x.change).schema.cols.length ≤ c5; omega) h5
theorem cut_snoc {xs : List Wri} {k : Nat} (h : k < xs.length) : (xs.take k).map cutW ++ [cutW (rdWri xs k)] = (xs.take (k + 1)).map cutW := by
  rw [List.take_succ_eq_append_getElem h, List.map_append]
  simp [rdWri, List.getD_eq_getElem?_getD, h]
set_option maxRecDepth 100000 in
set_option maxHeartbeats 8000000 in
theorem few_calls (A : Option Addr) (c : Nat) (xs : List Wri) (w : World) (hA : kWri.C w A xs.length xs) :
    Calls Tryz.prog 22 #[.slice A xs.length c] w fun e w' => ∃ B d, e = .returned (.slice B (fewL xs).length d) ∧ (fewL xs).length ≤ d ∧ kWri.C w' B (fewL xs).length (fewL xs) ∧ Below w.heap.size w w' := by
  have hlen : xs.length ≤ 9223372036854775807 := hA.2.1
  have HA := Aside0.mk hA
  clear hA
  go_enter Tryz.func22, Tryz.ntmps22
  go_wp2
  go_loopw [3, 4] (fun o i wr => Below w.heap.size w wr ∧ ∃ k : Nat, k ≤ xs.length ∧ k ≤ 12 ∧ i = .int .i64 k ∧ Kd.N kWri 35 wr w.heap.size (fun _ => True) o ((xs.take k).map cutW)) (fun _ i _ => xs.length - (intOf i).toNat)
  case atStart => exact ⟨Below.refl _ _, 0, by omega, by omega, rfl, Kd.N_nil _ _ _ _ _⟩
  case round =>
    obtain ⟨hbel, k, hk, hk12, rfl, hN⟩ := hrel
    obtain ⟨B, d, rfl⟩ := Kd.N_slice hN
    have hkl : ((xs.take k).map cutW).length = k := by rw [List.length_map, List.length_take]; omega
    rw [hkl] at hN
    by_cases hlt : k < xs.length
    case neg =>
      obtain rfl : k = xs.length := by omega
      rw [hkl]
      have hf : fewL xs = (xs.take xs.length).map cutW := by unfold fewL; rw [List.take_of_length_le (by omega), List.take_length]
      have h3 := Kd.N_reads' hN
      rw [← hf] at h3
      rw [← hf] at hkl
      have H3 := Aside0.mk h3
      have HKL := Aside0.mk hkl
      clear h3 hN hkl hf
      go_wp2
      go_ret
      exact ⟨B, d, by rw [HKL.out]; rfl, by rw [HKL.out]; exact H3.out.2.1, H3.out.2.2, hbel⟩
    by_cases h12 : k < 12
    case neg =>
      obtain rfl : k = 12 := by omega
      rw [hkl]
      have hf : fewL xs = (xs.take 12).map cutW := rfl
      have h3 := Kd.N_reads' hN
      rw [← hf] at h3
      rw [← hf] at hkl
      have H3 := Aside0.mk h3
      have HKL := Aside0.mk hkl
      clear h3 hN hkl hf
      go_wp2
      go_ret
      exact ⟨B, d, by rw [HKL.out]; rfl, by rw [HKL.out]; exact H3.out.2.1, H3.out.2.2, hbel⟩
    have h12d : decide ((k : Int) < 12) = true := decide_eq_true (by omega)
    rw [hkl]
    have HN := Aside0.mk hN
    have HKL := Aside0.mk hkl
    clear hN hkl
    obtain ⟨ad, A2, c2, A5, c5, eA, d0, d1, d2, d3, d4, d5, d6, d7, d8, d9, l2, g2, l5, g5⟩ := at_Wri HA.out k hlt
    cases eA
    have D0 := Aside0.mk (fun (W : World) (h : Below w.heap.size w W) => (⟨pw_cell_below h d0, pw_cell_below h d1, pw_cell_below h d2, pw_cell_below h d3, pw_cell_below h d4, pw_cell_below h d5, pw_cell_below h d6, pw_cell_below h d7, pw_cell_below h d8, pw_cell_below h d9⟩ : And _ (And _ (And _ (And _ (And _ (And _ (And _ (And _ (And _ (_)))))))))))
    have CS := Aside0.mk (cut_snoc hlt)
    clear d0 d1 d2 d3 d4 d5 d6 d7 d8 d9
    obtain ⟨d0, d1, d2, d3, d4, d5, d6, d7, d8, d9⟩ := D0.out wr hbel
    generalize rdWri xs k = x at *
    have HL2 := Aside0.mk l2
    have HG2 := Aside0.mk g2
    have HL5 := Aside0.mk l5
    have HG5 := Aside0.mk g5
    have HBel := Aside0.mk hbel
    clear hbel l2 g2 l5 g5 D0
    go_upto_region 6 with fail
    clear d0 d1 d2 d3 d4 d5 d6 d7 d8 d9
    have hr1 := heap_alloc_new wr (.cells #[.int .i64 x.kind, .string x.table, .slice A2 x.row.length c2, .int .i64 x.change.kind, .string x.change.table, .slice A5 x.change.schema.cols.length c5, .int .i64 x.change.schema.keys, .string x.change.column.name, .int .i64 x.change.column.kind, .bool x.change.column.none] 35)
    have hb1 : Below wr.heap.size wr (wr.alloc (.cells #[.int .i64 x.kind, .string x.table, .slice A2 x.row.length c2, .int .i64 x.change.kind, .string x.change.table, .slice A5 x.change.schema.cols.length c5, .int .i64 x.change.schema.keys, .string x.change.column.name, .int .i64 x.change.column.kind, .bool x.change.column.none] 35)) := (Below.refl _ _).alloc (Nat.le_refl _) _
    have hs1 : (wr.alloc (.cells #[.int .i64 x.kind, .string x.table, .slice A2 x.row.length c2, .int .i64 x.change.kind, .string x.change.table, .slice A5 x.change.schema.cols.length c5, .int .i64 x.change.schema.keys, .string x.change.column.name, .int .i64 x.change.column.kind, .bool x.change.column.none] 35)).heap.size = wr.heap.size + 1 := by simp
    generalize wr.alloc (.cells #[.int .i64 x.kind, .string x.table, .slice A2 x.row.length c2, .int .i64 x.change.kind, .string x.change.table, .slice A5 x.change.schema.cols.length c5, .int .i64 x.change.schema.keys, .string x.change.column.name, .int .i64 x.change.column.kind, .bool x.change.column.none] 35) = w1 at *
    have b0 : w1.cell? ⟨wr.heap.size, 0, none⟩ = some (.int .i64 x.kind) := cell_of_row w1 _ 0 _ _ _ hr1
    have b1 : w1.cell? ⟨wr.heap.size, 1, none⟩ = some (.string x.table) := cell_of_row w1 _ 1 _ _ _ hr1
    have b2 : w1.cell? ⟨wr.heap.size, 2, none⟩ = some (.slice A2 x.row.length c2) := cell_of_row w1 _ 2 _ _ _ hr1
    have b3 : w1.cell? ⟨wr.heap.size, 3, none⟩ = some (.int .i64 x.change.kind) := cell_of_row w1 _ 3 _ _ _ hr1
    have b4 : w1.cell? ⟨wr.heap.size, 4, none⟩ = some (.string x.change.table) := cell_of_row w1 _ 4 _ _ _ hr1
    have b5 : w1.cell? ⟨wr.heap.size, 5, none⟩ = some (.slice A5 x.change.schema.cols.length c5) := cell_of_row w1 _ 5 _ _ _ hr1
    have b6 : w1.cell? ⟨wr.heap.size, 6, none⟩ = some (.int .i64 x.change.schema.keys) := cell_of_row w1 _ 6 _ _ _ hr1
    have b7 : w1.cell? ⟨wr.heap.size, 7, none⟩ = some (.string x.change.column.name) := cell_of_row w1 _ 7 _ _ _ hr1
    have b8 : w1.cell? ⟨wr.heap.size, 8, none⟩ = some (.int .i64 x.change.column.kind) := cell_of_row w1 _ 8 _ _ _ hr1
    have b9 : w1.cell? ⟨wr.heap.size, 9, none⟩ = some (.bool x.change.column.none) := cell_of_row w1 _ 9 _ _ _ hr1
    have HR1 := Aside0.mk hr1
    have HB1 := Aside0.mk hb1
    have HS1 := Aside0.mk hs1
    clear hr1 hb1 hs1
    go_wp2_with fail
    refine (cut_calls x.change A5 c5 HL5.out w1).mono ?_
    rintro en w2 ⟨rfl, hb2⟩
    have hr2 := (hb2.block wr.heap.size (by rw [HS1.out]; omega)).trans HR1.out
    have HR2 := Aside0.mk hr2
    have HB2 := Aside0.mk (HB1.out.trans (hb2.mono HB1.out.size))
    clear hb2 b0 b1 b2 b3 b4 b5 b6 b7 b8 b9
    have b0 : w2.cell? ⟨wr.heap.size, 0, none⟩ = some (.int .i64 x.kind) := cell_of_row w2 _ 0 _ _ _ hr2
    have z0 := frozen_of_row w2 wr.heap.size 0 _ _ hr2
    have b1 : w2.cell? ⟨wr.heap.size, 1, none⟩ = some (.string x.table) := cell_of_row w2 _ 1 _ _ _ hr2
    have z1 := frozen_of_row w2 wr.heap.size 1 _ _ hr2
    have b2 : w2.cell? ⟨wr.heap.size, 2, none⟩ = some (.slice A2 x.row.length c2) := cell_of_row w2 _ 2 _ _ _ hr2
    have z2 := frozen_of_row w2 wr.heap.size 2 _ _ hr2
    have b3 : w2.cell? ⟨wr.heap.size, 3, none⟩ = some (.int .i64 x.change.kind) := cell_of_row w2 _ 3 _ _ _ hr2
    have z3 := frozen_of_row w2 wr.heap.size 3 _ _ hr2
    have b4 : w2.cell? ⟨wr.heap.size, 4, none⟩ = some (.string x.change.table) := cell_of_row w2 _ 4 _ _ _ hr2
    have z4 := frozen_of_row w2 wr.heap.size 4 _ _ hr2
    have b5 : w2.cell? ⟨wr.heap.size, 5, none⟩ = some (.slice A5 x.change.schema.cols.length c5) := cell_of_row w2 _ 5 _ _ _ hr2
    have z5 := frozen_of_row w2 wr.heap.size 5 _ _ hr2
    have b6 : w2.cell? ⟨wr.heap.size, 6, none⟩ = some (.int .i64 x.change.schema.keys) := cell_of_row w2 _ 6 _ _ _ hr2
    have z6 := frozen_of_row w2 wr.heap.size 6 _ _ hr2
    have b7 : w2.cell? ⟨wr.heap.size, 7, none⟩ = some (.string x.change.column.name) := cell_of_row w2 _ 7 _ _ _ hr2
    have z7 := frozen_of_row w2 wr.heap.size 7 _ _ hr2
    have b8 : w2.cell? ⟨wr.heap.size, 8, none⟩ = some (.int .i64 x.change.column.kind) := cell_of_row w2 _ 8 _ _ _ hr2
    have z8 := frozen_of_row w2 wr.heap.size 8 _ _ hr2
    have b9 : w2.cell? ⟨wr.heap.size, 9, none⟩ = some (.bool x.change.column.none) := cell_of_row w2 _ 9 _ _ _ hr2
    have z9 := frozen_of_row w2 wr.heap.size 9 _ _ hr2
    clear hr2
    go_upto_region 7 with fail
    have kr3 : ((((((((w2.setCell ⟨wr.heap.size, 3, none⟩ (.int .i64 x.change.kind)).setCell ⟨wr.heap.size, 4, none⟩ (.string (cutS x.change.table))).setCell ⟨wr.heap.size, 5, none⟩ (.slice A5 (min x.change.schema.cols.length 20) c5)).setCell ⟨wr.heap.size, 6, none⟩ (.int .i64 x.change.schema.keys)).setCell ⟨wr.heap.size, 7, none⟩ (.string (cutS x.change.column.name))).setCell ⟨wr.heap.size, 8, none⟩ (.int .i64 x.change.column.kind)).setCell ⟨wr.heap.size, 9, none⟩ (.bool x.change.column.none))).heap[wr.heap.size]? = some (.cells #[.int .i64 x.kind, .string x.table, .slice A2 x.row.length c2, .int .i64 x.change.kind, .string (cutS x.change.table), .slice A5 (min x.change.schema.cols.length 20) c5, .int .i64 x.change.schema.keys, .string (cutS x.change.column.name), .int .i64 x.change.column.kind, .bool x.change.column.none] 35 (0, 0)) := (heap_setCell_same _ wr.heap.size 9 _ _ (.bool x.change.column.none) (heap_setCell_same _ wr.heap.size 8 _ _ (.int .i64 x.change.column.kind) (heap_setCell_same _ wr.heap.size 7 _ _ (.string (cutS x.change.column.name)) (heap_setCell_same _ wr.heap.size 6 _ _ (.int .i64 x.change.schema.keys) (heap_setCell_same _ wr.heap.size 5 _ _ (.slice A5 (min x.change.schema.cols.length 20) c5) (heap_setCell_same _ wr.heap.size 4 _ _ (.string (cutS x.change.table)) (heap_setCell_same _ wr.heap.size 3 _ _ (.int .i64 x.change.kind) HR2.out)))))))
    have hb3 : Below wr.heap.size wr ((((((((w2.setCell ⟨wr.heap.size, 3, none⟩ (.int .i64 x.change.kind)).setCell ⟨wr.heap.size, 4, none⟩ (.string (cutS x.change.table))).setCell ⟨wr.heap.size, 5, none⟩ (.slice A5 (min x.change.schema.cols.length 20) c5)).setCell ⟨wr.heap.size, 6, none⟩ (.int .i64 x.change.schema.keys)).setCell ⟨wr.heap.size, 7, none⟩ (.string (cutS x.change.column.name))).setCell ⟨wr.heap.size, 8, none⟩ (.int .i64 x.change.column.kind)).setCell ⟨wr.heap.size, 9, none⟩ (.bool x.change.column.none))) := (((((((HB2.out.setCell (p := ⟨wr.heap.size, 3, none⟩) (Nat.le_refl _) (.int .i64 x.change.kind)).setCell (p := ⟨wr.heap.size, 4, none⟩) (Nat.le_refl _) (.string (cutS x.change.table))).setCell (p := ⟨wr.heap.size, 5, none⟩) (Nat.le_refl _) (.slice A5 (min x.change.schema.cols.length 20) c5)).setCell (p := ⟨wr.heap.size, 6, none⟩) (Nat.le_refl _) (.int .i64 x.change.schema.keys)).setCell (p := ⟨wr.heap.size, 7, none⟩) (Nat.le_refl _) (.string (cutS x.change.column.name))).setCell (p := ⟨wr.heap.size, 8, none⟩) (Nat.le_refl _) (.int .i64 x.change.column.kind)).setCell (p := ⟨wr.heap.size, 9, none⟩) (Nat.le_refl _) (.bool x.change.column.none))
    generalize (((((((w2.setCell ⟨wr.heap.size, 3, none⟩ (.int .i64 x.change.kind)).setCell ⟨wr.heap.size, 4, none⟩ (.string (cutS x.change.table))).setCell ⟨wr.heap.size, 5, none⟩ (.slice A5 (min x.change.schema.cols.length 20) c5)).setCell ⟨wr.heap.size, 6, none⟩ (.int .i64 x.change.schema.keys)).setCell ⟨wr.heap.size, 7, none⟩ (.string (cutS x.change.column.name))).setCell ⟨wr.heap.size, 8, none⟩ (.int .i64 x.change.column.kind)).setCell ⟨wr.heap.size, 9, none⟩ (.bool x.change.column.none)) = w3 at *
    have m1 := min_calls (x.table.size : Int) 40
    have s1 := cutS_run x.table
    generalize hct : cutS x.table = ct at *
    have HCT := Aside0.mk hct
    clear hct b0 z0 b1 z1 b2 z2 b3 z3 b4 z4 b5 z5 b6 z6 b7 z7 b8 z8 b9 z9
    generalize min (x.table.size : Int) 40 = i1 at *
    have b0 : w3.cell? ⟨wr.heap.size, 0, none⟩ = some (.int .i64 x.kind) := cell_of_row w3 _ 0 _ _ _ kr3
    have z0 := frozen_of_row w3 wr.heap.size 0 _ _ kr3
    have b1 : w3.cell? ⟨wr.heap.size, 1, none⟩ = some (.string x.table) := cell_of_row w3 _ 1 _ _ _ kr3
    have z1 := frozen_of_row w3 wr.heap.size 1 _ _ kr3
    have b2 : w3.cell? ⟨wr.heap.size, 2, none⟩ = some (.slice A2 x.row.length c2) := cell_of_row w3 _ 2 _ _ _ kr3
    have z2 := frozen_of_row w3 wr.heap.size 2 _ _ kr3
    have b3 : w3.cell? ⟨wr.heap.size, 3, none⟩ = some (.int .i64 x.change.kind) := cell_of_row w3 _ 3 _ _ _ kr3
    have z3 := frozen_of_row w3 wr.heap.size 3 _ _ kr3
    have b4 : w3.cell? ⟨wr.heap.size, 4, none⟩ = some (.string (cutS x.change.table)) := cell_of_row w3 _ 4 _ _ _ kr3
    have z4 := frozen_of_row w3 wr.heap.size 4 _ _ kr3
    have b5 : w3.cell? ⟨wr.heap.size, 5, none⟩ = some (.slice A5 (min x.change.schema.cols.length 20) c5) := cell_of_row w3 _ 5 _ _ _ kr3
    have z5 := frozen_of_row w3 wr.heap.size 5 _ _ kr3
    have b6 : w3.cell? ⟨wr.heap.size, 6, none⟩ = some (.int .i64 x.change.schema.keys) := cell_of_row w3 _ 6 _ _ _ kr3
    have z6 := frozen_of_row w3 wr.heap.size 6 _ _ kr3
    have b7 : w3.cell? ⟨wr.heap.size, 7, none⟩ = some (.string (cutS x.change.column.name)) := cell_of_row w3 _ 7 _ _ _ kr3
    have z7 := frozen_of_row w3 wr.heap.size 7 _ _ kr3
    have b8 : w3.cell? ⟨wr.heap.size, 8, none⟩ = some (.int .i64 x.change.column.kind) := cell_of_row w3 _ 8 _ _ _ kr3
    have z8 := frozen_of_row w3 wr.heap.size 8 _ _ kr3
    have b9 : w3.cell? ⟨wr.heap.size, 9, none⟩ = some (.bool x.change.column.none) := cell_of_row w3 _ 9 _ _ _ kr3
    have z9 := frozen_of_row w3 wr.heap.size 9 _ _ kr3
    have HR3 := Aside0.mk kr3
    have HB3 := Aside0.mk hb3
    clear kr3 hb3
    go_upto_region 8 with fail
    have kr4 := heap_setCell_same _ wr.heap.size 1 _ _ (.string ct) HR3.out
    have hb4 : Below wr.heap.size wr (w3.setCell ⟨wr.heap.size, 1, none⟩ (.string ct)) := HB3.out.setCell (p := ⟨wr.heap.size, 1, none⟩) (Nat.le_refl _) (.string ct)
    generalize w3.setCell ⟨wr.heap.size, 1, none⟩ (.string ct) = w4 at *
    replace kr4 : w4.heap[wr.heap.size]? = some (.cells #[.int .i64 x.kind, .string ct, .slice A2 x.row.length c2, .int .i64 x.change.kind, .string (cutS x.change.table), .slice A5 (min x.change.schema.cols.length 20) c5, .int .i64 x.change.schema.keys, .string (cutS x.change.column.name), .int .i64 x.change.column.kind, .bool x.change.column.none] 35 (0, 0)) := kr4
    clear m1 s1 b0 z0 b1 z1 b2 z2 b3 z3 b4 z4 b5 z5 b6 z6 b7 z7 b8 z8 b9 z9
    have b0 : w4.cell? ⟨wr.heap.size, 0, none⟩ = some (.int .i64 x.kind) := cell_of_row w4 _ 0 _ _ _ kr4
    have b1 : w4.cell? ⟨wr.heap.size, 1, none⟩ = some (.string ct) := cell_of_row w4 _ 1 _ _ _ kr4
    have b2 : w4.cell? ⟨wr.heap.size, 2, none⟩ = some (.slice A2 x.row.length c2) := cell_of_row w4 _ 2 _ _ _ kr4
    have b3 : w4.cell? ⟨wr.heap.size, 3, none⟩ = some (.int .i64 x.change.kind) := cell_of_row w4 _ 3 _ _ _ kr4
    have b4 : w4.cell? ⟨wr.heap.size, 4, none⟩ = some (.string (cutS x.change.table)) := cell_of_row w4 _ 4 _ _ _ kr4
    have b5 : w4.cell? ⟨wr.heap.size, 5, none⟩ = some (.slice A5 (min x.change.schema.cols.length 20) c5) := cell_of_row w4 _ 5 _ _ _ kr4
    have b6 : w4.cell? ⟨wr.heap.size, 6, none⟩ = some (.int .i64 x.change.schema.keys) := cell_of_row w4 _ 6 _ _ _ kr4
    have b7 : w4.cell? ⟨wr.heap.size, 7, none⟩ = some (.string (cutS x.change.column.name)) := cell_of_row w4 _ 7 _ _ _ kr4
    have b8 : w4.cell? ⟨wr.heap.size, 8, none⟩ = some (.int .i64 x.change.column.kind) := cell_of_row w4 _ 8 _ _ _ kr4
    have b9 : w4.cell? ⟨wr.heap.size, 9, none⟩ = some (.bool x.change.column.none) := cell_of_row w4 _ 9 _ _ _ kr4
    have HB4 := Aside0.mk (HBel.out.trans (hb4.mono HBel.out.size))
    have HN4 := Aside0.mk (Kd.N_below HN.out hb4)
    have hfk := cutW_foot HB4.out HG2.out HG5.out HL2.out HL5.out
    rw [HCT.out] at hfk
    have HFK := Aside0.mk hfk
    clear hfk kr4 hb4
    go_wp2_with (at_builtin; refine Kd.N_append kWri (w0 := w) (W := w4) w.heap.size rfl (.tmp 32) (.tmp 34) 39 35 (.agg #[.int .i64 0, .string ⟨#[]⟩, .slice none 0 0, .int .i64 0, .string ⟨#[]⟩, .slice none 0 0, .int .i64 0, .string ⟨#[]⟩, .int .i64 0, .bool false]) 136 rfl Tryz.underlying39 infoWri rfl (by decide) (by decide) (.slice B k d) ((xs.take k).map cutW) (cutW x) [.int .i64 x.kind, .string ct, .slice A2 x.row.length c2, .int .i64 x.change.kind, .string (cutS x.change.table), .slice A5 (min x.change.schema.cols.length 20) c5, .int .i64 x.change.schema.keys, .string (cutS x.change.column.name), .int .i64 x.change.column.kind, .bool x.change.column.none] (fun _ => True) (fun k => k < w.heap.size) rfl rfl HFK.out (fun j hj => ⟨trivial, fun he => by have := Kd.N_base HN.out j he.symm; omega⟩) (fun _ _ => trivial) HN4.out HB4.out HB4.out.size (by rw [HKL.out]; omega) ?_; intro v5 w5 hN5 hb5 hg5 hat5; rw [CS.out] at hN5; clear b0 b1 b2 b3 b4 b5 b6 b7 b8 b9)
    go_roundw
    case rel => exact ⟨hb5, k + 1, by omega, by omega, by go_num, hN5⟩
    case measure => simp [intOf]; omega
end Go.Proofs.YtapcoekakbbmcaaGreatDoor
