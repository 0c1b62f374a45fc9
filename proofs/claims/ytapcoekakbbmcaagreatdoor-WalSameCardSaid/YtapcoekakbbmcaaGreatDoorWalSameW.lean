/- wal.Same: its closure, slices.EqualFunc with it. Printed by gen_walsame.py. -/
import Derived.Test.YtapcoekakbbmcaaGreatDoorSame14Ex
import Derived.Deep.DeepCutAuto
namespace Go.Proofs.YtapcoekakbbmcaaGreatDoor
open Go.RowKit Go.Proofs.YtapcoekakbbmcaaGreatDoorW.PrintWords
set_option linter.unusedVariables false
set_option linter.unusedSimpArgs false
set_option maxRecDepth 100000 in
set_option maxHeartbeats 8000000 in
theorem same_clo (x y : Wri) (A2 B2 A5 B5 : Option Addr) (c2 e2 c5 e5 : Nat) (w : World) (g2 : kVal.C w A2 x.row.length x.row) (k2 : kVal.C w B2 y.row.length y.row) (g5 : kCol.C w A5 x.change.schema.cols.length x.change.schema.cols) (k5 : kCol.C w B5 y.change.schema.cols.length y.change.schema.cols) (l2 : x.row.length ≤ c2) (m2 : y.row.length ≤ e2) (l5 : x.change.schema.cols.length ≤ c5) (m5 : y.change.schema.cols.length ≤ e5) :
    Calls Tryz.prog 64 #[.agg #[.int .i64 x.kind, .string x.table, .slice A2 x.row.length c2, .int .i64 x.change.kind, .string x.change.table, .slice A5 x.change.schema.cols.length c5, .int .i64 x.change.schema.keys, .string x.change.column.name, .int .i64 x.change.column.kind, .bool x.change.column.none], .agg #[.int .i64 y.kind, .string y.table, .slice B2 y.row.length e2, .int .i64 y.change.kind, .string y.change.table, .slice B5 y.change.schema.cols.length e5, .int .i64 y.change.schema.keys, .string y.change.column.name, .int .i64 y.change.column.kind, .bool y.change.column.none]] w fun e w' => e = .returned (.bool (eqW x y)) ∧ Below w.heap.size w w' := by
  have G := Aside0.mk (⟨g2, k2, g5, k5⟩ : And _ (And _ (And _ _)))
  clear g2 k2 g5 k5
  have P := Aside0.mk (fun W (h : Below w.heap.size w W) => evE none none A2 B2 A5 B5 0 0 c2 e2 c5 e5 ⟨0, 0, x.table, [], x.row, x.change⟩ ⟨0, 0, y.table, [], y.row, y.change⟩ W (Kd.C_nil _ _) (Kd.C_nil _ _) (Kd.C_below G.out.1 h) (Kd.C_below G.out.2.1 h) (Kd.C_below G.out.2.2.1 h) (Kd.C_below G.out.2.2.2 h) (by simp) (by simp) l2 m2 l5 m5)
  have HB1 := Aside0.mk (fun (o1 o2 : Obj) => (below_alloc (below_alloc (Below.refl w.heap.size w) o1) o2 : Below w.heap.size w ((w.alloc o1).alloc o2)))
  by_cases hk : x.kind = y.kind
  · have hq : eqW x y = eqE ⟨0, 0, x.table, [], x.row, x.change⟩ ⟨0, 0, y.table, [], y.row, y.change⟩ := by simp [eqW, hk, evW]
    rw [hq]
    generalize hz : eqE ⟨0, 0, x.table, [], x.row, x.change⟩ ⟨0, 0, y.table, [], y.row, y.change⟩ = z at *
    clear hq hz
    go_enter Tryz.func64, Tryz.ntmps64
    go_wp2_with (go_at_call 65; refine (P.out _ (HB1.out _ _)).mono ?_; rintro e w2 ⟨rfl, hb2⟩)
    go_ret
    exact ⟨rfl, (HB1.out _ _).trans (hb2.mono (HB1.out _ _).size)⟩
  · have hq : eqW x y = false := by simp [eqW, hk]
    rw [hq]
    clear hq
    go_enter Tryz.func64, Tryz.ntmps64
    go_wp2
    go_ret
    exact ⟨rfl, HB1.out _ _⟩
set_option maxRecDepth 100000 in
set_option maxHeartbeats 8000000 in
theorem equalFunc (A B : Option Addr) (c d : Nat) (xs ys : List Wri) (w : World) (hA : kWri.C w A xs.length xs) (hB : kWri.C w B ys.length ys) (hc : xs.length ≤ c) (hd : ys.length ≤ d) :
    Calls Tryz.prog 63 #[.slice A xs.length c, .slice B ys.length d, .func (.func 64) #[] #[]] w fun e w' => e = .returned (.bool (eqs eqW xs ys)) ∧ Below w.heap.size w w' := by
  have hlen : xs.length ≤ 9223372036854775807 := hA.2.1
  by_cases hyl : ys.length = xs.length
  case neg =>
    have hrz : eqs eqW xs ys = false := eqs_len _ _ _ (fun h => hyl h.symm)
    rw [hrz]
    have hne : ¬ (xs.length : Int) = (ys.length : Int) := by omega
    clear hA hB
    go_enter Tryz.func63, Tryz.ntmps63
    go_wp2
    go_ret
    exact ⟨rfl, Below.refl _ _⟩
  rw [hyl] at hB hd ⊢
  have HA := Aside0.mk hA
  have HB := Aside0.mk hB
  clear hA hB
  go_enter Tryz.func63, Tryz.ntmps63
  go_wp2
  go_loopw [17] (fun i wr => Below w.heap.size w wr ∧ ∃ k : Nat, k ≤ xs.length ∧ i = .int .i64 k ∧ eqs eqW xs ys = eqs eqW (xs.drop k) (ys.drop k)) (fun i _ => xs.length - (intOf i).toNat)
  case atStart => exact ⟨Below.refl _ _, 0, by omega, rfl, rfl⟩
  case round =>
    obtain ⟨hbel, k, hk, rfl, heq⟩ := hrel
    by_cases hlt : k < xs.length
    · obtain ⟨ad, A2, c2, A5, c5, eA, d0, d1, d2, d3, d4, d5, d6, d7, d8, d9, l2, g2, l5, g5⟩ := at_Wri HA.out k hlt
      obtain ⟨bd, B2, e2, B5, e5, eB, f0, f1, f2, f3, f4, f5, f6, f7, f8, f9, m2, k2, m5, k5⟩ := at_Wri HB.out k hlt
      cases eA
      cases eB
      have D0 := Aside0.mk (fun (W : World) (h : Below w.heap.size w W) => (⟨pw_cell_below h d0, pw_cell_below h d1, pw_cell_below h d2, pw_cell_below h d3, pw_cell_below h d4, pw_cell_below h d5, pw_cell_below h d6, pw_cell_below h d7, pw_cell_below h d8, pw_cell_below h d9⟩ : And _ (And _ (And _ (And _ (And _ (And _ (And _ (And _ (And _ (_)))))))))))
      have F0 := Aside0.mk (fun (W : World) (h : Below w.heap.size w W) => (⟨pw_cell_below h f0, pw_cell_below h f1, pw_cell_below h f2, pw_cell_below h f3, pw_cell_below h f4, pw_cell_below h f5, pw_cell_below h f6, pw_cell_below h f7, pw_cell_below h f8, pw_cell_below h f9⟩ : And _ (And _ (And _ (And _ (And _ (And _ (And _ (And _ (And _ (_)))))))))))
      clear d0 d1 d2 d3 d4 d5 d6 d7 d8 d9 f0 f1 f2 f3 f4 f5 f6 f7 f8 f9
      obtain ⟨d0, d1, d2, d3, d4, d5, d6, d7, d8, d9⟩ := D0.out wr hbel
      rw [eqs_drop eqW xs ys zWri k hlt (by omega)] at heq
      change eqs eqW xs ys = (eqW (rdWri xs k) (rdWri ys k) && _) at heq
      have HEQ := Aside0.mk heq
      clear heq
      generalize rdWri xs k = x at *
      generalize rdWri ys k = y at *
      have P := Aside0.mk (fun W (h : Below w.heap.size w W) => same_clo x y A2 B2 A5 B5 c2 e2 c5 e5 W (Kd.C_below g2 h) (Kd.C_below k2 h) (Kd.C_below g5 h) (Kd.C_below k5 h) l2 m2 l5 m5)
      have HBel := Aside0.mk hbel
      clear hbel l2 g2 l5 g5 m2 k2 m5 k5
      have hb1 := below_alloc HBel.out (.cells #[.int .i64 x.kind, .string x.table, .slice A2 x.row.length c2, .int .i64 x.change.kind, .string x.change.table, .slice A5 x.change.schema.cols.length c5, .int .i64 x.change.schema.keys, .string x.change.column.name, .int .i64 x.change.column.kind, .bool x.change.column.none] 35)
      obtain ⟨f0, f1, f2, f3, f4, f5, f6, f7, f8, f9⟩ := F0.out (wr.alloc (.cells #[.int .i64 x.kind, .string x.table, .slice A2 x.row.length c2, .int .i64 x.change.kind, .string x.change.table, .slice A5 x.change.schema.cols.length c5, .int .i64 x.change.schema.keys, .string x.change.column.name, .int .i64 x.change.column.kind, .bool x.change.column.none] 35)) hb1
      have HB2 := Aside0.mk (below_alloc hb1 (.cells #[.int .i64 y.kind, .string y.table, .slice B2 y.row.length e2, .int .i64 y.change.kind, .string y.change.table, .slice B5 y.change.schema.cols.length e5, .int .i64 y.change.schema.keys, .string y.change.column.name, .int .i64 y.change.column.kind, .bool y.change.column.none] 35))
      clear hb1
      cases hq : eqW x y with
      | false =>
        rw [hq] at P
        have HQ := Aside0.mk hq
        clear hq
        go_wp2_with (go_at_call 64; refine (P.out _ HB2.out).mono ?_; rintro e w3 ⟨rfl, hb3⟩)
        go_ret
        exact ⟨by rw [HEQ.out, HQ.out]; rfl, HB2.out.trans (hb3.mono HB2.out.size)⟩
      | true =>
        rw [hq] at P
        have HQ := Aside0.mk hq
        clear hq
        go_wp2_with (go_at_call 64; refine (P.out _ HB2.out).mono ?_; rintro e w3 ⟨rfl, hb3⟩)
        go_roundw
        case rel => exact ⟨HB2.out.trans (hb3.mono HB2.out.size), k + 1, by omega, by go_num, by rw [HEQ.out, HQ.out]; rfl⟩
        case measure => simp [intOf]; omega
    · obtain rfl : k = xs.length := by omega
      go_wp2
      go_ret
      have hrz : eqs eqW xs ys = true := by rw [heq, List.drop_length, List.drop_of_length_le (by omega)]; rfl
      exact ⟨by rw [hrz]; rfl, hbel⟩
set_option maxHeartbeats 4000000 in
theorem wal_same (A B : Option Addr) (c d : Nat) (xs ys : List Wri) (w : World) (hA : kWri.C w A xs.length xs) (hB : kWri.C w B ys.length ys) (hc : xs.length ≤ c) (hd : ys.length ≤ d) :
    Calls Tryz.prog 28 #[.slice A xs.length c, .slice B ys.length d] w fun e w' => e = .returned (.bool (eqs eqW xs ys)) ∧ Below w.heap.size w w' := by
  have P := Aside0.mk (equalFunc A B c d xs ys w hA hB hc hd)
  clear hA hB
  generalize eqs eqW xs ys = z at *
  go_enter Tryz.func28, Tryz.ntmps28
  go_wp2_with (go_at_call 63; refine P.out.mono ?_; rintro e w2 ⟨rfl, hb2⟩)
  go_ret
  exact ⟨rfl, hb2⟩
end Go.Proofs.YtapcoekakbbmcaaGreatDoor
