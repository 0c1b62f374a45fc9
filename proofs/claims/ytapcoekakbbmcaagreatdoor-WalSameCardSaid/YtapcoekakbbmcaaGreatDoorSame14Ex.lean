/- The document's comparison of any two lists of writes. Printed by gen_same14.py. -/
import Derived.Test.YtapcoekakbbmcaaGreatDoorSameEx
import Derived.Test.YtapcoekakbbmcaaGreatDoorApiMore
import Derived.Test.YtapcoekakbbmcaaGreatDoorSame14
import Derived.Deep.RegionHeld3
namespace Go.Proofs.YtapcoekakbbmcaaGreatDoor
open Go.RowKit Go.Proofs.YtapcoekakbbmcaaGreatDoorW.PrintWords
set_option linter.unusedVariables false
set_option linter.unusedSimpArgs false
def evW (x : Wri) : Ev := ⟨0, 0, x.table, [], x.row, x.change⟩
def eqW (x y : Wri) : Bool := x.kind == y.kind && eqE (evW x) (evW y)
theorem eqW_refl (x : Wri) : eqW x x = true := by simp [eqW, eqE_refl]
set_option maxRecDepth 100000 in
set_option maxHeartbeats 4000000 in
theorem same14x (A B : Option Addr) (c d : Nat) (xs ys : List Wri) (w : World) (hA : kWri.C w A xs.length xs) (hB : kWri.C w B ys.length ys) (hc : xs.length ≤ c) (hd : ys.length ≤ d) :
    Calls Tryz.prog 13 #[.slice A xs.length c, .slice B ys.length d] w fun e w' => e = .returned (.bool (eqs eqW xs ys)) ∧ Below w.heap.size w w' := by
  have hlen : xs.length ≤ 9223372036854775807 := hA.2.1
  by_cases hyl : ys.length = xs.length
  case neg =>
    have hrz : eqs eqW xs ys = false := eqs_len _ _ _ (fun h => hyl h.symm)
    rw [hrz]
    have hne : ¬ (xs.length : Int) = (ys.length : Int) := by omega
    clear hA hB
    go_enter Tryz.func13, Tryz.ntmps13
    go_wp2
    go_ret
    exact ⟨rfl, Below.refl _ _⟩
  rw [hyl] at hB hd ⊢
  have HA := Aside0.mk hA
  have HB := Aside0.mk hB
  clear hA hB
  go_enter Tryz.func13, Tryz.ntmps13
  go_wp2
  go_loopw [5] (fun i wr => Below w.heap.size w wr ∧ ∃ k : Nat, k ≤ xs.length ∧ i = .int .i64 k ∧ eqs eqW xs ys = eqs eqW (xs.drop k) (ys.drop k)) (fun i _ => xs.length - (intOf i).toNat)
  case atStart => exact ⟨Below.refl _ _, 0, by omega, rfl, rfl⟩
  case round =>
    obtain ⟨hbel, k, hk, rfl, heq⟩ := hrel
    by_cases hlt : k < xs.length
    · obtain ⟨ad, A2, c2, A5, c5, eA, d0, d1, d2, d3, d4, d5, d6, d7, d8, d9, l2, g2, l5, g5⟩ := at_Wri HA.out k hlt
      obtain ⟨bd, B2, e2, B5, e5, eB, f0, f1, f2, f3, f4, f5, f6, f7, f8, f9, m2, k2, m5, k5⟩ := at_Wri HB.out k hlt
      cases eA
      cases eB
      have D0 := Aside0.mk (fun (W : World) (h : Below w.heap.size w W) => (⟨pw_cell_below h d0, pw_cell_below h d1, pw_cell_below h d2, pw_cell_below h d3, pw_cell_below h d4, pw_cell_below h d5, pw_cell_below h d6, pw_cell_below h d7, pw_cell_below h d8, pw_cell_below h d9⟩ : And _ (And _ (And _ (And _ (And _ (And _ (And _ (And _ (And _ _))))))))))
      have F0 := Aside0.mk (fun (W : World) (h : Below w.heap.size w W) => (⟨pw_cell_below h f0, pw_cell_below h f1, pw_cell_below h f2, pw_cell_below h f3, pw_cell_below h f4, pw_cell_below h f5, pw_cell_below h f6, pw_cell_below h f7, pw_cell_below h f8, pw_cell_below h f9⟩ : And _ (And _ (And _ (And _ (And _ (And _ (And _ (And _ (And _ _))))))))))
      clear d0 d1 d2 d3 d4 d5 d6 d7 d8 d9 f0 f1 f2 f3 f4 f5 f6 f7 f8 f9
      obtain ⟨d0, d1, d2, d3, d4, d5, d6, d7, d8, d9⟩ := D0.out wr hbel
      rw [eqs_drop eqW xs ys zWri k hlt (by omega)] at heq
      change eqs eqW xs ys = (eqW (rdWri xs k) (rdWri ys k) && _) at heq
      have HEQ := Aside0.mk heq
      clear heq
      generalize rdWri xs k = x at *
      generalize rdWri ys k = y at *
      have P := Aside0.mk (fun W (h : Below w.heap.size w W) => refE none none A2 B2 A5 B5 0 0 c2 e2 c5 e5 ⟨x.kind, 0, x.table, [], x.row, x.change⟩ ⟨y.kind, 0, y.table, [], y.row, y.change⟩ W (Kd.C_nil _ _) (Kd.C_nil _ _) (Kd.C_below g2 h) (Kd.C_below k2 h) (Kd.C_below g5 h) (Kd.C_below k5 h) (by simp) (by simp) l2 m2 l5 m5)
      have hqe : eqE ⟨x.kind, 0, x.table, [], x.row, x.change⟩ ⟨y.kind, 0, y.table, [], y.row, y.change⟩ = eqW x y := by simp [eqW, eqE, evW]
      rw [hqe] at P
      have HBel := Aside0.mk hbel
      clear hbel l2 g2 l5 g5 m2 k2 m5 k5
      go_wp2
      go_region_held3 (fun W => W.cell? (ad.add (k * 10)) = some (.int .i64 x.kind) ∧ W.cell? ⟨(ad.add (k * 10)).block, (ad.add (k * 10)).off + 1, none⟩ = some (.string x.table) ∧ W.cell? ⟨(ad.add (k * 10)).block, (ad.add (k * 10)).off + 2, none⟩ = some (.slice A2 x.row.length c2) ∧ W.cell? ⟨(ad.add (k * 10)).block, (ad.add (k * 10)).off + 3, none⟩ = some (.int .i64 x.change.kind) ∧ W.cell? ⟨(ad.add (k * 10)).block, (ad.add (k * 10)).off + 4, none⟩ = some (.string x.change.table) ∧ W.cell? ⟨(ad.add (k * 10)).block, (ad.add (k * 10)).off + 5, none⟩ = some (.slice A5 x.change.schema.cols.length c5) ∧ W.cell? ⟨(ad.add (k * 10)).block, (ad.add (k * 10)).off + 6, none⟩ = some (.int .i64 x.change.schema.keys) ∧ W.cell? ⟨(ad.add (k * 10)).block, (ad.add (k * 10)).off + 7, none⟩ = some (.string x.change.column.name) ∧ W.cell? ⟨(ad.add (k * 10)).block, (ad.add (k * 10)).off + 8, none⟩ = some (.int .i64 x.change.column.kind) ∧ W.cell? ⟨(ad.add (k * 10)).block, (ad.add (k * 10)).off + 9, none⟩ = some (.bool x.change.column.none))
        (first | exact D0.out _ ((HBel.out).drew) | go_keep) (fail)
      go_wp2
      have hx1 : Below wr.heap.size wr ((wr.alloc (.cells #[.int .i64 x.kind, .int .i64 0, .string x.table, .slice none 0 0, .slice A2 x.row.length c2, .int .i64 x.change.kind, .string x.change.table, .slice A5 x.change.schema.cols.length c5, .int .i64 x.change.schema.keys, .string x.change.column.name, .int .i64 x.change.column.kind, .bool x.change.column.none] 32)).drew) := ((Below.refl _ _).alloc (Nat.le_refl _) _).drew
      have hy1 : ((wr.alloc (.cells #[.int .i64 x.kind, .int .i64 0, .string x.table, .slice none 0 0, .slice A2 x.row.length c2, .int .i64 x.change.kind, .string x.change.table, .slice A5 x.change.schema.cols.length c5, .int .i64 x.change.schema.keys, .string x.change.column.name, .int .i64 x.change.column.kind, .bool x.change.column.none] 32)).drew).heap[wr.heap.size]? = some (.cells #[.int .i64 x.kind, .int .i64 0, .string x.table, .slice none 0 0, .slice A2 x.row.length c2, .int .i64 x.change.kind, .string x.change.table, .slice A5 x.change.schema.cols.length c5, .int .i64 x.change.schema.keys, .string x.change.column.name, .int .i64 x.change.column.kind, .bool x.change.column.none] 32 (0, 0)) := heap_alloc_new _ _
      have hs1 : ((wr.alloc (.cells #[.int .i64 x.kind, .int .i64 0, .string x.table, .slice none 0 0, .slice A2 x.row.length c2, .int .i64 x.change.kind, .string x.change.table, .slice A5 x.change.schema.cols.length c5, .int .i64 x.change.schema.keys, .string x.change.column.name, .int .i64 x.change.column.kind, .bool x.change.column.none] 32)).drew).heap.size = wr.heap.size + 1 := by simp
      generalize (wr.alloc (.cells #[.int .i64 x.kind, .int .i64 0, .string x.table, .slice none 0 0, .slice A2 x.row.length c2, .int .i64 x.change.kind, .string x.change.table, .slice A5 x.change.schema.cols.length c5, .int .i64 x.change.schema.keys, .string x.change.column.name, .int .i64 x.change.column.kind, .bool x.change.column.none] 32)).drew = w1 at *
      have HX1 := Aside0.mk (below_more HBel.out hx1)
      have HY1 := Aside0.mk hy1
      have HS1 := Aside0.mk hs1
      clear hx1 hy1 hs1 d0 d1 d2 d3 d4 d5 d6 d7 d8 d9
      obtain ⟨f0, f1, f2, f3, f4, f5, f6, f7, f8, f9⟩ := F0.out w1 HX1.out
      go_region_held3 (fun W => W.cell? (bd.add (k * 10)) = some (.int .i64 y.kind) ∧ W.cell? ⟨(bd.add (k * 10)).block, (bd.add (k * 10)).off + 1, none⟩ = some (.string y.table) ∧ W.cell? ⟨(bd.add (k * 10)).block, (bd.add (k * 10)).off + 2, none⟩ = some (.slice B2 y.row.length e2) ∧ W.cell? ⟨(bd.add (k * 10)).block, (bd.add (k * 10)).off + 3, none⟩ = some (.int .i64 y.change.kind) ∧ W.cell? ⟨(bd.add (k * 10)).block, (bd.add (k * 10)).off + 4, none⟩ = some (.string y.change.table) ∧ W.cell? ⟨(bd.add (k * 10)).block, (bd.add (k * 10)).off + 5, none⟩ = some (.slice B5 y.change.schema.cols.length e5) ∧ W.cell? ⟨(bd.add (k * 10)).block, (bd.add (k * 10)).off + 6, none⟩ = some (.int .i64 y.change.schema.keys) ∧ W.cell? ⟨(bd.add (k * 10)).block, (bd.add (k * 10)).off + 7, none⟩ = some (.string y.change.column.name) ∧ W.cell? ⟨(bd.add (k * 10)).block, (bd.add (k * 10)).off + 8, none⟩ = some (.int .i64 y.change.column.kind) ∧ W.cell? ⟨(bd.add (k * 10)).block, (bd.add (k * 10)).off + 9, none⟩ = some (.bool y.change.column.none))
        (first | exact F0.out _ ((HX1.out).drew) | go_keep) (fail)
      have hx2 : Below w1.heap.size w1 ((w1.alloc (.cells #[.int .i64 y.kind, .int .i64 0, .string y.table, .slice none 0 0, .slice B2 y.row.length e2, .int .i64 y.change.kind, .string y.change.table, .slice B5 y.change.schema.cols.length e5, .int .i64 y.change.schema.keys, .string y.change.column.name, .int .i64 y.change.column.kind, .bool y.change.column.none] 32)).drew) := ((Below.refl _ _).alloc (Nat.le_refl _) _).drew
      have hy2 : ((w1.alloc (.cells #[.int .i64 y.kind, .int .i64 0, .string y.table, .slice none 0 0, .slice B2 y.row.length e2, .int .i64 y.change.kind, .string y.change.table, .slice B5 y.change.schema.cols.length e5, .int .i64 y.change.schema.keys, .string y.change.column.name, .int .i64 y.change.column.kind, .bool y.change.column.none] 32)).drew).heap[w1.heap.size]? = some (.cells #[.int .i64 y.kind, .int .i64 0, .string y.table, .slice none 0 0, .slice B2 y.row.length e2, .int .i64 y.change.kind, .string y.change.table, .slice B5 y.change.schema.cols.length e5, .int .i64 y.change.schema.keys, .string y.change.column.name, .int .i64 y.change.column.kind, .bool y.change.column.none] 32 (0, 0)) := heap_alloc_new _ _
      generalize (w1.alloc (.cells #[.int .i64 y.kind, .int .i64 0, .string y.table, .slice none 0 0, .slice B2 y.row.length e2, .int .i64 y.change.kind, .string y.change.table, .slice B5 y.change.schema.cols.length e5, .int .i64 y.change.schema.keys, .string y.change.column.name, .int .i64 y.change.column.kind, .bool y.change.column.none] 32)).drew = w2 at *
      have hya : w2.heap[wr.heap.size]? = some (.cells #[.int .i64 x.kind, .int .i64 0, .string x.table, .slice none 0 0, .slice A2 x.row.length c2, .int .i64 x.change.kind, .string x.change.table, .slice A5 x.change.schema.cols.length c5, .int .i64 x.change.schema.keys, .string x.change.column.name, .int .i64 x.change.column.kind, .bool x.change.column.none] 32 (0, 0)) := (hx2.block _ (by have := HS1.out; omega)).trans HY1.out
      have HX2 := Aside0.mk (below_more HX1.out hx2)
      clear hx2 f0 f1 f2 f3 f4 f5 f6 f7 f8 f9
      have p0 : w2.cell? ⟨wr.heap.size, 0, none⟩ = some (.int .i64 x.kind) := cell_of_row w2 _ 0 _ _ _ hya
      have p1 : w2.cell? ⟨wr.heap.size, 1, none⟩ = some (.int .i64 0) := cell_of_row w2 _ 1 _ _ _ hya
      have p2 : w2.cell? ⟨wr.heap.size, 2, none⟩ = some (.string x.table) := cell_of_row w2 _ 2 _ _ _ hya
      have p3 : w2.cell? ⟨wr.heap.size, 3, none⟩ = some (.slice none 0 0) := cell_of_row w2 _ 3 _ _ _ hya
      have p4 : w2.cell? ⟨wr.heap.size, 4, none⟩ = some (.slice A2 x.row.length c2) := cell_of_row w2 _ 4 _ _ _ hya
      have p5 : w2.cell? ⟨wr.heap.size, 5, none⟩ = some (.int .i64 x.change.kind) := cell_of_row w2 _ 5 _ _ _ hya
      have p6 : w2.cell? ⟨wr.heap.size, 6, none⟩ = some (.string x.change.table) := cell_of_row w2 _ 6 _ _ _ hya
      have p7 : w2.cell? ⟨wr.heap.size, 7, none⟩ = some (.slice A5 x.change.schema.cols.length c5) := cell_of_row w2 _ 7 _ _ _ hya
      have p8 : w2.cell? ⟨wr.heap.size, 8, none⟩ = some (.int .i64 x.change.schema.keys) := cell_of_row w2 _ 8 _ _ _ hya
      have p9 : w2.cell? ⟨wr.heap.size, 9, none⟩ = some (.string x.change.column.name) := cell_of_row w2 _ 9 _ _ _ hya
      have p10 : w2.cell? ⟨wr.heap.size, 10, none⟩ = some (.int .i64 x.change.column.kind) := cell_of_row w2 _ 10 _ _ _ hya
      have p11 : w2.cell? ⟨wr.heap.size, 11, none⟩ = some (.bool x.change.column.none) := cell_of_row w2 _ 11 _ _ _ hya
      have q0 : w2.cell? ⟨w1.heap.size, 0, none⟩ = some (.int .i64 y.kind) := cell_of_row w2 _ 0 _ _ _ hy2
      have q1 : w2.cell? ⟨w1.heap.size, 1, none⟩ = some (.int .i64 0) := cell_of_row w2 _ 1 _ _ _ hy2
      have q2 : w2.cell? ⟨w1.heap.size, 2, none⟩ = some (.string y.table) := cell_of_row w2 _ 2 _ _ _ hy2
      have q3 : w2.cell? ⟨w1.heap.size, 3, none⟩ = some (.slice none 0 0) := cell_of_row w2 _ 3 _ _ _ hy2
      have q4 : w2.cell? ⟨w1.heap.size, 4, none⟩ = some (.slice B2 y.row.length e2) := cell_of_row w2 _ 4 _ _ _ hy2
      have q5 : w2.cell? ⟨w1.heap.size, 5, none⟩ = some (.int .i64 y.change.kind) := cell_of_row w2 _ 5 _ _ _ hy2
      have q6 : w2.cell? ⟨w1.heap.size, 6, none⟩ = some (.string y.change.table) := cell_of_row w2 _ 6 _ _ _ hy2
      have q7 : w2.cell? ⟨w1.heap.size, 7, none⟩ = some (.slice B5 y.change.schema.cols.length e5) := cell_of_row w2 _ 7 _ _ _ hy2
      have q8 : w2.cell? ⟨w1.heap.size, 8, none⟩ = some (.int .i64 y.change.schema.keys) := cell_of_row w2 _ 8 _ _ _ hy2
      have q9 : w2.cell? ⟨w1.heap.size, 9, none⟩ = some (.string y.change.column.name) := cell_of_row w2 _ 9 _ _ _ hy2
      have q10 : w2.cell? ⟨w1.heap.size, 10, none⟩ = some (.int .i64 y.change.column.kind) := cell_of_row w2 _ 10 _ _ _ hy2
      have q11 : w2.cell? ⟨w1.heap.size, 11, none⟩ = some (.bool y.change.column.none) := cell_of_row w2 _ 11 _ _ _ hy2
      clear hya hy2
      cases hq : eqW x y with
      | false =>
        rw [hq] at P
        have HQ := Aside0.mk hq
        clear hq
        go_wp2_with (go_at_call 31; refine (P.out _ HX2.out).mono ?_; rintro e w3 ⟨rfl, hb3⟩)
        go_ret
        exact ⟨by rw [HEQ.out, HQ.out]; rfl, below_more HX2.out hb3⟩
      | true =>
        rw [hq] at P
        have HQ := Aside0.mk hq
        clear hq
        go_wp2_with (go_at_call 31; refine (P.out _ HX2.out).mono ?_; rintro e w3 ⟨rfl, hb3⟩)
        go_roundw
        case rel => exact ⟨below_more HX2.out hb3, k + 1, by omega, by go_num, by rw [HEQ.out, HQ.out]; rfl⟩
        case measure => simp [intOf]; omega
    · obtain rfl : k = xs.length := by omega
      go_wp2
      go_ret
      have hrz : eqs eqW xs ys = true := by rw [heq, List.drop_length, List.drop_of_length_le (by omega)]; rfl
      exact ⟨by rw [hrz]; rfl, hbel⟩
end Go.Proofs.YtapcoekakbbmcaaGreatDoor
