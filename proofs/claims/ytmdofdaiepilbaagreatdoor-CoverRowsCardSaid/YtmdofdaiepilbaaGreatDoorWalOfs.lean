/- What wal.Of and the document's Of answer at an event: the same write. Conditions: the event reads so; its rows are below 2^47 bytes. -/
import Derived.Test.YtmdofdaiepilbaaGreatDoorGApi
import Derived.Test.YtmdofdaiepilbaaGreatDoorGApi
import Derived.Deep.RegionHeld3
import Derived.RegionTactic

import Derived.Test.YtmdofdaiepilbaaGreatDoorWLast
import Derived.Laws.Tables
import Derived.Laws.CopyOwn
namespace Go.Proofs.YtmdofdaiepilbaaGreatDoor
open Go.RowKit Go.Proofs.YtmdofdaiepilbaaGreatDoorW.PrintWords
open Go.Proofs.YtmdofdaiepilbaaGreatDoorW.PrintLast (start_ take_ one_ last_ done_ pure_)
set_option linter.unusedVariables false
set_option linter.unusedSimpArgs false
theorem F_row2 {α : Type} {d : Kd α} {e base n c : Nat} {A : Option Addr} {xs : List α} {W : World} (h : d.R e W base (fun _ => True) (.slice A n c) xs) (g : Nat) (cs : Array Value) (hg : g < base) : d.C (W.setRow g cs) A n xs := by
  have h2 := Kd.R_step (Kd.R_bound h) (w1 := W.setRow g cs) (fun k hk hlt => setRow_other W g k cs (by have := hk.2.1; omega))
  have h3 := Kd.R_reads' h2
  obtain ⟨rfl, _, h4⟩ := h3
  exact h4
def writeOf (e : Ev) : Wri := if e.kind = 3 ∨ e.kind = 4 then ⟨1, e.table, e.after, zChg⟩ else if e.kind = 5 then ⟨2, e.table, e.before, zChg⟩ else if e.kind = 6 then ⟨3, ⟨#[]⟩, [], e.change⟩ else zWri
def ofB (e : Ev) : Bool := decide (3 ≤ e.kind ∧ e.kind ≤ 6)
def OfTell (w : World) (x : Wri) (b : Bool) (en : Ending) (w' : World) : Prop := ∃ A2 c2 A5 c5, en = .returned (.tuple #[.agg #[.int .i64 x.kind, .string x.table, .slice A2 x.row.length c2, .int .i64 x.change.kind, .string x.change.table, .slice A5 x.change.schema.cols.length c5, .int .i64 x.change.schema.keys, .string x.change.column.name, .int .i64 x.change.column.kind, .bool x.change.column.none], .bool b]) ∧ x.row.length ≤ c2 ∧ kVal.C w' A2 x.row.length x.row ∧ x.change.schema.cols.length ≤ c5 ∧ kCol.C w' A5 x.change.schema.cols.length x.change.schema.cols ∧ Below w.heap.size w w'
theorem of_put {e : Ev} (h : e.kind = 3 ∨ e.kind = 4) : writeOf e = ⟨1, e.table, e.after, zChg⟩ ∧ ofB e = true := by
  unfold writeOf ofB
  rw [if_pos h]
  exact ⟨rfl, decide_eq_true (by omega)⟩
theorem of_off {e : Ev} (h : e.kind = 5) : writeOf e = ⟨2, e.table, e.before, zChg⟩ ∧ ofB e = true := by
  unfold writeOf ofB
  rw [if_neg (by omega), if_pos h]
  exact ⟨rfl, decide_eq_true (by omega)⟩
theorem of_turn {e : Ev} (h : e.kind = 6) : writeOf e = ⟨3, ⟨#[]⟩, [], e.change⟩ ∧ ofB e = true := by
  unfold writeOf ofB
  rw [if_neg (by omega), if_neg (by omega), if_pos h]
  exact ⟨rfl, decide_eq_true (by omega)⟩
theorem of_none {e : Ev} (h3 : e.kind ≠ 3) (h4 : e.kind ≠ 4) (h5 : e.kind ≠ 5) (h6 : e.kind ≠ 6) : writeOf e = zWri ∧ ofB e = false := by
  unfold writeOf ofB
  rw [if_neg (by omega), if_neg (by omega), if_neg (by omega)]
  exact ⟨rfl, decide_eq_false (by omega)⟩
set_option maxRecDepth 100000 in
set_option maxHeartbeats 4000000 in
theorem ref_of (e : Ev) (A3 A4 A7 : Option Addr) (c3 c4 c7 : Nat) (w : World) (hA3 : kVal.C w A3 e.before.length e.before) (hA4 : kVal.C w A4 e.after.length e.after) (hA7 : kCol.C w A7 e.change.schema.cols.length e.change.schema.cols) (hc3 : e.before.length ≤ c3) (hc4 : e.after.length ≤ c4) (hc7 : e.change.schema.cols.length ≤ c7) :
    Calls Tryz.prog 36 #[.agg #[.int .i64 e.kind, .int .i64 e.num, .string e.table, .slice A3 e.before.length c3, .slice A4 e.after.length c4, .int .i64 e.change.kind, .string e.change.table, .slice A7 e.change.schema.cols.length c7, .int .i64 e.change.schema.keys, .string e.change.column.name, .int .i64 e.change.column.kind, .bool e.change.column.none]] w (OfTell w (writeOf e) (ofB e)) := by
  have HA3 := Aside0.mk hA3
  have HA4 := Aside0.mk hA4
  have HA7 := Aside0.mk hA7
  have HB := Aside0.mk (((Below.refl w.heap.size w).alloc (Nat.le_refl _) (.cells #[.int .i64 e.kind, .int .i64 e.num, .string e.table, .slice A3 e.before.length c3, .slice A4 e.after.length c4, .int .i64 e.change.kind, .string e.change.table, .slice A7 e.change.schema.cols.length c7, .int .i64 e.change.schema.keys, .string e.change.column.name, .int .i64 e.change.column.kind, .bool e.change.column.none] 55)).alloc (by simp) (.cells #[.int .i64 0, .string ⟨#[]⟩, .slice none 0 0, .int .i64 0, .string ⟨#[]⟩, .slice none 0 0, .int .i64 0, .string ⟨#[]⟩, .int .i64 0, .bool false] 60))
  have hbb := fun (o1 o2 : Obj) => ((Below.refl w.heap.size w).alloc (Nat.le_refl _) o1).alloc (by simp : w.heap.size ≤ (w.alloc o1).heap.size) o2
  clear hA3 hA4 hA7 HB
  by_cases h3 : e.kind = 3
  · obtain ⟨q1, q2⟩ := of_put (.inl h3)
    rw [q1, q2]
    clear q1 q2
    go_enter Tryz.func36, Tryz.ntmps36
    go_wp2
    exact bodyPost_ret (v := .tuple #[.agg #[.int .i64 1, .string e.table, .slice A4 e.after.length c4, .int .i64 0, .string ⟨#[]⟩, .slice none 0 0, .int .i64 0, .string ⟨#[]⟩, .int .i64 0, .bool false], .bool true]) (by simp [results, Tryz.results36, go_sem]) rfl ⟨A4, c4, none, 0, rfl, hc4, Kd.C_below HA4.out (hbb _ _), Nat.le_refl _, Kd.C_nil _ _, (hbb _ _)⟩
  · skip
    by_cases h4 : e.kind = 4
    · obtain ⟨q1, q2⟩ := of_put (.inr h4)
      rw [q1, q2]
      clear q1 q2
      go_enter Tryz.func36, Tryz.ntmps36
      go_wp2
      exact bodyPost_ret (v := .tuple #[.agg #[.int .i64 1, .string e.table, .slice A4 e.after.length c4, .int .i64 0, .string ⟨#[]⟩, .slice none 0 0, .int .i64 0, .string ⟨#[]⟩, .int .i64 0, .bool false], .bool true]) (by simp [results, Tryz.results36, go_sem]) rfl ⟨A4, c4, none, 0, rfl, hc4, Kd.C_below HA4.out (hbb _ _), Nat.le_refl _, Kd.C_nil _ _, (hbb _ _)⟩
    · skip
      by_cases h5 : e.kind = 5
      · obtain ⟨q1, q2⟩ := of_off h5
        rw [q1, q2]
        clear q1 q2
        go_enter Tryz.func36, Tryz.ntmps36
        go_wp2
        exact bodyPost_ret (v := .tuple #[.agg #[.int .i64 2, .string e.table, .slice A3 e.before.length c3, .int .i64 0, .string ⟨#[]⟩, .slice none 0 0, .int .i64 0, .string ⟨#[]⟩, .int .i64 0, .bool false], .bool true]) (by simp [results, Tryz.results36, go_sem]) rfl ⟨A3, c3, none, 0, rfl, hc3, Kd.C_below HA3.out (hbb _ _), Nat.le_refl _, Kd.C_nil _ _, (hbb _ _)⟩
      · skip
        by_cases h6 : e.kind = 6
        · obtain ⟨q1, q2⟩ := of_turn h6
          rw [q1, q2]
          clear q1 q2
          go_enter Tryz.func36, Tryz.ntmps36
          go_wp2
          exact bodyPost_ret (v := .tuple #[.agg #[.int .i64 3, .string ⟨#[]⟩, .slice none 0 0, .int .i64 e.change.kind, .string e.change.table, .slice A7 e.change.schema.cols.length c7, .int .i64 e.change.schema.keys, .string e.change.column.name, .int .i64 e.change.column.kind, .bool e.change.column.none], .bool true]) (by simp [results, Tryz.results36, go_sem]) rfl ⟨none, 0, A7, c7, rfl, Nat.le_refl _, Kd.C_nil _ _, hc7, Kd.C_below HA7.out (hbb _ _), (hbb _ _)⟩
        · skip
          obtain ⟨q1, q2⟩ := of_none h3 h4 h5 h6
          rw [q1, q2]
          clear q1 q2
          have e3 : (e.kind == 3) = false := beq_eq_false_iff_ne.2 h3
          have e4 : (e.kind == 4) = false := beq_eq_false_iff_ne.2 h4
          have e5 : (e.kind == 5) = false := beq_eq_false_iff_ne.2 h5
          have e6 : (e.kind == 6) = false := beq_eq_false_iff_ne.2 h6
          go_enter Tryz.func36, Tryz.ntmps36
          go_wp2
          exact bodyPost_ret (v := .tuple #[.agg #[.int .i64 0, .string ⟨#[]⟩, .slice none 0 0, .int .i64 0, .string ⟨#[]⟩, .slice none 0 0, .int .i64 0, .string ⟨#[]⟩, .int .i64 0, .bool false], .bool false]) (by simp [results, Tryz.results36, go_sem]) rfl ⟨none, 0, none, 0, rfl, Nat.le_refl _, Kd.C_nil _ _, Nat.le_refl _, Kd.C_nil _ _, (hbb _ _)⟩
theorem zWri_row : zWri.row = [] := rfl
set_option maxRecDepth 100000 in
set_option maxHeartbeats 8000000 in
theorem wal_of (e : Ev) (A3 A4 A7 : Option Addr) (c3 c4 c7 : Nat) (w : World) (hA3 : kVal.C w A3 e.before.length e.before) (hA4 : kVal.C w A4 e.after.length e.after) (hA7 : kCol.C w A7 e.change.schema.cols.length e.change.schema.cols) (hc3 : e.before.length ≤ c3) (hc4 : e.after.length ≤ c4) (hc7 : e.change.schema.cols.length ≤ c7) (hn3 : e.before.length * 32 ≤ 140737488355328) (hn4 : e.after.length * 32 ≤ 140737488355328) (hn7 : e.change.schema.cols.length * 32 ≤ 140737488355328) :
    Calls Tryz.prog 31 #[.agg #[.int .i64 e.kind, .int .i64 e.num, .string e.table, .slice A3 e.before.length c3, .slice A4 e.after.length c4, .int .i64 e.change.kind, .string e.change.table, .slice A7 e.change.schema.cols.length c7, .int .i64 e.change.schema.keys, .string e.change.column.name, .int .i64 e.change.column.kind, .bool e.change.column.none]] w (OfTell w (writeOf e) (ofB e)) := by
  have HCl3 := Aside0.mk (fun W (h : Below w.heap.size w W) => cloneVal_calls A3 e.before.length c3 e.before W (Kd.C_below hA3 h) hn3)
  have HCl4 := Aside0.mk (fun W (h : Below w.heap.size w W) => cloneVal_calls A4 e.after.length c4 e.after W (Kd.C_below hA4 h) hn4)
  have HCl7 := Aside0.mk (fun W (h : Below w.heap.size w W) => cloneCol_calls A7 e.change.schema.cols.length c7 e.change.schema.cols W (Kd.C_below hA7 h) hn7)
  have hbb := fun (o1 o2 : Obj) => ((Below.refl w.heap.size w).alloc (Nat.le_refl _) o1).alloc (by simp : w.heap.size ≤ (w.alloc o1).heap.size) o2
  clear hA3 hA4 hA7 hc3 hc4 hc7 hn3 hn4 hn7
  by_cases h3 : e.kind = 3
  · obtain ⟨q1, q2⟩ := of_put (.inl h3)
    rw [q1, q2]
    clear q1 q2
    have e3 : (e.kind == 3) = true := beq_iff_eq.2 h3
    clear h3
    go_enter Tryz.func31, Tryz.ntmps31
    go_wp2_with fail
    have hr0 : ((w.alloc (.cells #[.int .i64 e.kind, .int .i64 e.num, .string e.table, .slice A3 e.before.length c3, .slice A4 e.after.length c4, .int .i64 e.change.kind, .string e.change.table, .slice A7 e.change.schema.cols.length c7, .int .i64 e.change.schema.keys, .string e.change.column.name, .int .i64 e.change.column.kind, .bool e.change.column.none] 55)).alloc (.cells #[.int .i64 0, .string ⟨#[]⟩, .slice none 0 0, .int .i64 0, .string ⟨#[]⟩, .slice none 0 0, .int .i64 0, .string ⟨#[]⟩, .int .i64 0, .bool false] 60)).heap[w.heap.size]? = some (.cells #[.int .i64 e.kind, .int .i64 e.num, .string e.table, .slice A3 e.before.length c3, .slice A4 e.after.length c4, .int .i64 e.change.kind, .string e.change.table, .slice A7 e.change.schema.cols.length c7, .int .i64 e.change.schema.keys, .string e.change.column.name, .int .i64 e.change.column.kind, .bool e.change.column.none] 55 (0, 0)) := heap_alloc2_old _ _ _
    have hr1 : ((w.alloc (.cells #[.int .i64 e.kind, .int .i64 e.num, .string e.table, .slice A3 e.before.length c3, .slice A4 e.after.length c4, .int .i64 e.change.kind, .string e.change.table, .slice A7 e.change.schema.cols.length c7, .int .i64 e.change.schema.keys, .string e.change.column.name, .int .i64 e.change.column.kind, .bool e.change.column.none] 55)).alloc (.cells #[.int .i64 0, .string ⟨#[]⟩, .slice none 0 0, .int .i64 0, .string ⟨#[]⟩, .slice none 0 0, .int .i64 0, .string ⟨#[]⟩, .int .i64 0, .bool false] 60)).heap[w.heap.size + 1]? = some (.cells #[.int .i64 0, .string ⟨#[]⟩, .slice none 0 0, .int .i64 0, .string ⟨#[]⟩, .slice none 0 0, .int .i64 0, .string ⟨#[]⟩, .int .i64 0, .bool false] 60 (0, 0)) := heap_alloc2_new _ _ _
    have hb1 := hbb (.cells #[.int .i64 e.kind, .int .i64 e.num, .string e.table, .slice A3 e.before.length c3, .slice A4 e.after.length c4, .int .i64 e.change.kind, .string e.change.table, .slice A7 e.change.schema.cols.length c7, .int .i64 e.change.schema.keys, .string e.change.column.name, .int .i64 e.change.column.kind, .bool e.change.column.none] 55) (.cells #[.int .i64 0, .string ⟨#[]⟩, .slice none 0 0, .int .i64 0, .string ⟨#[]⟩, .slice none 0 0, .int .i64 0, .string ⟨#[]⟩, .int .i64 0, .bool false] 60)
    generalize ((w.alloc (.cells #[.int .i64 e.kind, .int .i64 e.num, .string e.table, .slice A3 e.before.length c3, .slice A4 e.after.length c4, .int .i64 e.change.kind, .string e.change.table, .slice A7 e.change.schema.cols.length c7, .int .i64 e.change.schema.keys, .string e.change.column.name, .int .i64 e.change.column.kind, .bool e.change.column.none] 55)).alloc (.cells #[.int .i64 0, .string ⟨#[]⟩, .slice none 0 0, .int .i64 0, .string ⟨#[]⟩, .slice none 0 0, .int .i64 0, .string ⟨#[]⟩, .int .i64 0, .bool false] 60)) = w1 at *
    have k2 : w1.cell? ⟨w.heap.size, 2, none⟩ = some (.string e.table) := cell_of_row w1 _ 2 _ _ _ hr0
    have k4 : w1.cell? ⟨w.heap.size, 4, none⟩ = some (.slice A4 e.after.length c4) := cell_of_row w1 _ 4 _ _ _ hr0
    have HR1 := Aside0.mk hr1
    have HB1 := Aside0.mk hb1
    have HLt := Aside0.mk (Array.getElem?_eq_some_iff.1 hr1).1
    clear hr0 hr1 hb1 hbb
    refine start_ (S := fun W => W.cell? ⟨w.heap.size, 2, none⟩ = some (.string e.table) ∧ W.cell? ⟨w.heap.size, 4, none⟩ = some (.slice A4 e.after.length c4)) (ds := [6]) #[false, false, false, false, false, false, false, false] (by kernel_rfl) rfl rfl (And.intro k2 k4) (fun hS => ?_)
    refine take_ (i := 0) (v := .pointer (some ⟨w.heap.size, 2, none⟩)) #[true, false, false, false, false, false, false, false] rfl rfl (by kernel_rfl) (fun _ _ _ h => h) (Or.inl ⟨by rfl, ?_⟩) hS rfl ?_
    · (intro W hW; obtain ⟨q0, q1⟩ := hW; go_simp)
    try simp only [Act.put, List.setIfInBounds_toArray, List.set_cons_zero, List.set_cons_succ]
    refine take_ (i := 1) (v := .string e.table) #[true, true, false, false, false, false, false, false] rfl rfl (by kernel_rfl) (fun _ _ _ h => h) (Or.inl ⟨by rfl, ?_⟩) hS rfl ?_
    · (intro W hW; obtain ⟨q0, q1⟩ := hW; go_simp)
    try simp only [Act.put, List.setIfInBounds_toArray, List.set_cons_zero, List.set_cons_succ]
    refine take_ (i := 2) (v := .pointer (some ⟨w.heap.size, 4, none⟩)) #[true, true, true, false, false, false, false, false] rfl rfl (by kernel_rfl) (fun _ _ _ h => h) (Or.inl ⟨by rfl, ?_⟩) hS rfl ?_
    · (intro W hW; obtain ⟨q0, q1⟩ := hW; go_simp)
    try simp only [Act.put, List.setIfInBounds_toArray, List.set_cons_zero, List.set_cons_succ]
    refine take_ (i := 3) (v := .slice A4 e.after.length c4) #[true, true, true, true, false, false, false, false] rfl rfl (by kernel_rfl) (fun _ _ _ h => h) (Or.inl ⟨by rfl, ?_⟩) hS rfl ?_
    · (intro W hW; obtain ⟨q0, q1⟩ := hW; go_simp)
    try simp only [Act.put, List.setIfInBounds_toArray, List.set_cons_zero, List.set_cons_succ]
    refine one_ (i := 4) #[true, true, true, true, true, false, false, false] rfl rfl (by kernel_rfl) (by decide) (fun K hK => ?_)
    rw [if_pos (by rfl)]
    go_simp
    refine (HCl4.out _ HB1.out.drew).mono ?_
    rintro x w2 ⟨v2, rfl, hR2, hb2⟩
    obtain ⟨A2, c2, rfl⟩ := Kd.R_slice hR2
    have HC2 := Aside0.mk (Kd.R_reads' hR2)
    have HR2 := Aside0.mk hR2
    have hbw := ((Below.refl w1.heap.size w1).drew).trans hb2
    have hs2 := And.intro (pw_cell_below hbw k2) (pw_cell_below hbw k4)
    have kr2 := (hbw.block (w.heap.size + 1) HLt.out).trans HR1.out
    have HB2 := Aside0.mk (HB1.out.trans (hbw.mono HB1.out.size))
    clear hR2 hb2 hbw
    refine hK.out _ _ hs2 (fun hS3 => ?_)
    try simp only [Act.put, List.setIfInBounds_toArray, List.set_cons_zero, List.set_cons_succ]
    refine take_ (i := 5) (v := .agg #[.int .i64 1, .string e.table, .slice A2 e.after.length c2, .int .i64 0, .string ⟨#[]⟩, .slice none 0 0, .int .i64 0, .string ⟨#[]⟩, .int .i64 0, .bool false]) #[true, true, true, true, true, true, false, false] rfl rfl (by kernel_rfl) (fun _ _ _ h => h) (Or.inl ⟨by rfl, ?_⟩) hS3 rfl ?_
    · (intro W hW; go_simp)
    try simp only [Act.put, List.setIfInBounds_toArray, List.set_cons_zero, List.set_cons_succ]
    refine last_ (i := 6) #[true, true, true, true, true, true, true, false] rfl rfl (by kernel_rfl) (by decide) (fun K2 hK2 => ?_)
    rw [if_pos (by rfl)]
    refine wp_store_row 60 (.tmp 2) (.tmp 15) rfl (w.heap.size + 1) #[.int .i64 1, .string e.table, .slice A2 e.after.length c2, .int .i64 0, .string ⟨#[]⟩, .slice none 0 0, .int .i64 0, .string ⟨#[]⟩, .int .i64 0, .bool false] rfl rfl 60 #[.int .i64 0, .string ⟨#[]⟩, .slice none 0 0, .int .i64 0, .string ⟨#[]⟩, .slice none 0 0, .int .i64 0, .string ⟨#[]⟩, .int .i64 0, .bool false] kr2 (by kernel_rfl) rfl (by simp [Value.oneCell']) ?_
    refine hK2.out _ _ ?_
    refine pure_ (i := 7) (v := .bool true) #[true, true, true, true, true, true, true, true] rfl rfl (by kernel_rfl) (fun _ _ _ h => h) (Or.inl ⟨by rfl, ?_⟩) rfl ?_
    · (intro W; go_simp)
    try simp only [Act.put, List.setIfInBounds_toArray, List.set_cons_zero, List.set_cons_succ]
    refine done_ (by kernel_rfl) ?_
    clear hK hK2
    have kr3 := setRow_heap w2 (w.heap.size + 1) #[.int .i64 0, .string ⟨#[]⟩, .slice none 0 0, .int .i64 0, .string ⟨#[]⟩, .slice none 0 0, .int .i64 0, .string ⟨#[]⟩, .int .i64 0, .bool false] #[.int .i64 1, .string e.table, .slice A2 e.after.length c2, .int .i64 0, .string ⟨#[]⟩, .slice none 0 0, .int .i64 0, .string ⟨#[]⟩, .int .i64 0, .bool false] 60 _ kr2
    have HB3 := Aside0.mk (below_setRow HB2.out (by omega : w.heap.size ≤ w.heap.size + 1) #[.int .i64 1, .string e.table, .slice A2 e.after.length c2, .int .i64 0, .string ⟨#[]⟩, .slice none 0 0, .int .i64 0, .string ⟨#[]⟩, .int .i64 0, .bool false])
    have HC3 := Aside0.mk (F_row2 HR2.out (w.heap.size + 1) #[.int .i64 1, .string e.table, .slice A2 e.after.length c2, .int .i64 0, .string ⟨#[]⟩, .slice none 0 0, .int .i64 0, .string ⟨#[]⟩, .int .i64 0, .bool false] (by have := HLt.out; have : w1.drew.heap.size = w1.heap.size := rfl; omega))
    have p0 : (w2.setRow (w.heap.size + 1) #[.int .i64 1, .string e.table, .slice A2 e.after.length c2, .int .i64 0, .string ⟨#[]⟩, .slice none 0 0, .int .i64 0, .string ⟨#[]⟩, .int .i64 0, .bool false]).cell? ⟨w.heap.size + 1, 0, none⟩ = some (.int .i64 1) := cell_of_row _ _ 0 _ _ _ kr3
    have p1 : (w2.setRow (w.heap.size + 1) #[.int .i64 1, .string e.table, .slice A2 e.after.length c2, .int .i64 0, .string ⟨#[]⟩, .slice none 0 0, .int .i64 0, .string ⟨#[]⟩, .int .i64 0, .bool false]).cell? ⟨w.heap.size + 1, 1, none⟩ = some (.string e.table) := cell_of_row _ _ 1 _ _ _ kr3
    have p2 : (w2.setRow (w.heap.size + 1) #[.int .i64 1, .string e.table, .slice A2 e.after.length c2, .int .i64 0, .string ⟨#[]⟩, .slice none 0 0, .int .i64 0, .string ⟨#[]⟩, .int .i64 0, .bool false]).cell? ⟨w.heap.size + 1, 2, none⟩ = some (.slice A2 e.after.length c2) := cell_of_row _ _ 2 _ _ _ kr3
    have p3 : (w2.setRow (w.heap.size + 1) #[.int .i64 1, .string e.table, .slice A2 e.after.length c2, .int .i64 0, .string ⟨#[]⟩, .slice none 0 0, .int .i64 0, .string ⟨#[]⟩, .int .i64 0, .bool false]).cell? ⟨w.heap.size + 1, 3, none⟩ = some (.int .i64 0) := cell_of_row _ _ 3 _ _ _ kr3
    have p4 : (w2.setRow (w.heap.size + 1) #[.int .i64 1, .string e.table, .slice A2 e.after.length c2, .int .i64 0, .string ⟨#[]⟩, .slice none 0 0, .int .i64 0, .string ⟨#[]⟩, .int .i64 0, .bool false]).cell? ⟨w.heap.size + 1, 4, none⟩ = some (.string ⟨#[]⟩) := cell_of_row _ _ 4 _ _ _ kr3
    have p5 : (w2.setRow (w.heap.size + 1) #[.int .i64 1, .string e.table, .slice A2 e.after.length c2, .int .i64 0, .string ⟨#[]⟩, .slice none 0 0, .int .i64 0, .string ⟨#[]⟩, .int .i64 0, .bool false]).cell? ⟨w.heap.size + 1, 5, none⟩ = some (.slice none 0 0) := cell_of_row _ _ 5 _ _ _ kr3
    have p6 : (w2.setRow (w.heap.size + 1) #[.int .i64 1, .string e.table, .slice A2 e.after.length c2, .int .i64 0, .string ⟨#[]⟩, .slice none 0 0, .int .i64 0, .string ⟨#[]⟩, .int .i64 0, .bool false]).cell? ⟨w.heap.size + 1, 6, none⟩ = some (.int .i64 0) := cell_of_row _ _ 6 _ _ _ kr3
    have p7 : (w2.setRow (w.heap.size + 1) #[.int .i64 1, .string e.table, .slice A2 e.after.length c2, .int .i64 0, .string ⟨#[]⟩, .slice none 0 0, .int .i64 0, .string ⟨#[]⟩, .int .i64 0, .bool false]).cell? ⟨w.heap.size + 1, 7, none⟩ = some (.string ⟨#[]⟩) := cell_of_row _ _ 7 _ _ _ kr3
    have p8 : (w2.setRow (w.heap.size + 1) #[.int .i64 1, .string e.table, .slice A2 e.after.length c2, .int .i64 0, .string ⟨#[]⟩, .slice none 0 0, .int .i64 0, .string ⟨#[]⟩, .int .i64 0, .bool false]).cell? ⟨w.heap.size + 1, 8, none⟩ = some (.int .i64 0) := cell_of_row _ _ 8 _ _ _ kr3
    have p9 : (w2.setRow (w.heap.size + 1) #[.int .i64 1, .string e.table, .slice A2 e.after.length c2, .int .i64 0, .string ⟨#[]⟩, .slice none 0 0, .int .i64 0, .string ⟨#[]⟩, .int .i64 0, .bool false]).cell? ⟨w.heap.size + 1, 9, none⟩ = some (.bool false) := cell_of_row _ _ 9 _ _ _ kr3
    clear kr3 kr2 hs2
    generalize w2.setRow (w.heap.size + 1) #[.int .i64 1, .string e.table, .slice A2 e.after.length c2, .int .i64 0, .string ⟨#[]⟩, .slice none 0 0, .int .i64 0, .string ⟨#[]⟩, .int .i64 0, .bool false] = w3 at *
    go_wp2
    exact bodyPost_ret (v := .tuple #[.agg #[.int .i64 1, .string e.table, .slice A2 e.after.length c2, .int .i64 0, .string ⟨#[]⟩, .slice none 0 0, .int .i64 0, .string ⟨#[]⟩, .int .i64 0, .bool false], .bool true]) (by simp [results, Tryz.results31, go_sem, p0, p1, p2, p3, p4, p5, p6, p7, p8, p9]) rfl ⟨A2, c2, none, 0, rfl, HC2.out.2.1, HC3.out, Nat.le_refl _, Kd.C_nil _ _, HB3.out⟩
  · skip
    by_cases h4 : e.kind = 4
    · obtain ⟨q1, q2⟩ := of_put (.inr h4)
      rw [q1, q2]
      clear q1 q2
      have e3 : (e.kind == 3) = false := beq_eq_false_iff_ne.2 h3
      have e4 : (e.kind == 4) = true := beq_iff_eq.2 h4
      clear h3 h4
      go_enter Tryz.func31, Tryz.ntmps31
      go_wp2_with fail
      have hr0 : ((w.alloc (.cells #[.int .i64 e.kind, .int .i64 e.num, .string e.table, .slice A3 e.before.length c3, .slice A4 e.after.length c4, .int .i64 e.change.kind, .string e.change.table, .slice A7 e.change.schema.cols.length c7, .int .i64 e.change.schema.keys, .string e.change.column.name, .int .i64 e.change.column.kind, .bool e.change.column.none] 55)).alloc (.cells #[.int .i64 0, .string ⟨#[]⟩, .slice none 0 0, .int .i64 0, .string ⟨#[]⟩, .slice none 0 0, .int .i64 0, .string ⟨#[]⟩, .int .i64 0, .bool false] 60)).heap[w.heap.size]? = some (.cells #[.int .i64 e.kind, .int .i64 e.num, .string e.table, .slice A3 e.before.length c3, .slice A4 e.after.length c4, .int .i64 e.change.kind, .string e.change.table, .slice A7 e.change.schema.cols.length c7, .int .i64 e.change.schema.keys, .string e.change.column.name, .int .i64 e.change.column.kind, .bool e.change.column.none] 55 (0, 0)) := heap_alloc2_old _ _ _
      have hr1 : ((w.alloc (.cells #[.int .i64 e.kind, .int .i64 e.num, .string e.table, .slice A3 e.before.length c3, .slice A4 e.after.length c4, .int .i64 e.change.kind, .string e.change.table, .slice A7 e.change.schema.cols.length c7, .int .i64 e.change.schema.keys, .string e.change.column.name, .int .i64 e.change.column.kind, .bool e.change.column.none] 55)).alloc (.cells #[.int .i64 0, .string ⟨#[]⟩, .slice none 0 0, .int .i64 0, .string ⟨#[]⟩, .slice none 0 0, .int .i64 0, .string ⟨#[]⟩, .int .i64 0, .bool false] 60)).heap[w.heap.size + 1]? = some (.cells #[.int .i64 0, .string ⟨#[]⟩, .slice none 0 0, .int .i64 0, .string ⟨#[]⟩, .slice none 0 0, .int .i64 0, .string ⟨#[]⟩, .int .i64 0, .bool false] 60 (0, 0)) := heap_alloc2_new _ _ _
      have hb1 := hbb (.cells #[.int .i64 e.kind, .int .i64 e.num, .string e.table, .slice A3 e.before.length c3, .slice A4 e.after.length c4, .int .i64 e.change.kind, .string e.change.table, .slice A7 e.change.schema.cols.length c7, .int .i64 e.change.schema.keys, .string e.change.column.name, .int .i64 e.change.column.kind, .bool e.change.column.none] 55) (.cells #[.int .i64 0, .string ⟨#[]⟩, .slice none 0 0, .int .i64 0, .string ⟨#[]⟩, .slice none 0 0, .int .i64 0, .string ⟨#[]⟩, .int .i64 0, .bool false] 60)
      generalize ((w.alloc (.cells #[.int .i64 e.kind, .int .i64 e.num, .string e.table, .slice A3 e.before.length c3, .slice A4 e.after.length c4, .int .i64 e.change.kind, .string e.change.table, .slice A7 e.change.schema.cols.length c7, .int .i64 e.change.schema.keys, .string e.change.column.name, .int .i64 e.change.column.kind, .bool e.change.column.none] 55)).alloc (.cells #[.int .i64 0, .string ⟨#[]⟩, .slice none 0 0, .int .i64 0, .string ⟨#[]⟩, .slice none 0 0, .int .i64 0, .string ⟨#[]⟩, .int .i64 0, .bool false] 60)) = w1 at *
      have k2 : w1.cell? ⟨w.heap.size, 2, none⟩ = some (.string e.table) := cell_of_row w1 _ 2 _ _ _ hr0
      have k4 : w1.cell? ⟨w.heap.size, 4, none⟩ = some (.slice A4 e.after.length c4) := cell_of_row w1 _ 4 _ _ _ hr0
      have HR1 := Aside0.mk hr1
      have HB1 := Aside0.mk hb1
      have HLt := Aside0.mk (Array.getElem?_eq_some_iff.1 hr1).1
      clear hr0 hr1 hb1 hbb
      refine start_ (S := fun W => W.cell? ⟨w.heap.size, 2, none⟩ = some (.string e.table) ∧ W.cell? ⟨w.heap.size, 4, none⟩ = some (.slice A4 e.after.length c4)) (ds := [6]) #[false, false, false, false, false, false, false, false] (by kernel_rfl) rfl rfl (And.intro k2 k4) (fun hS => ?_)
      refine take_ (i := 0) (v := .pointer (some ⟨w.heap.size, 2, none⟩)) #[true, false, false, false, false, false, false, false] rfl rfl (by kernel_rfl) (fun _ _ _ h => h) (Or.inl ⟨by rfl, ?_⟩) hS rfl ?_
      · (intro W hW; obtain ⟨q0, q1⟩ := hW; go_simp)
      try simp only [Act.put, List.setIfInBounds_toArray, List.set_cons_zero, List.set_cons_succ]
      refine take_ (i := 1) (v := .string e.table) #[true, true, false, false, false, false, false, false] rfl rfl (by kernel_rfl) (fun _ _ _ h => h) (Or.inl ⟨by rfl, ?_⟩) hS rfl ?_
      · (intro W hW; obtain ⟨q0, q1⟩ := hW; go_simp)
      try simp only [Act.put, List.setIfInBounds_toArray, List.set_cons_zero, List.set_cons_succ]
      refine take_ (i := 2) (v := .pointer (some ⟨w.heap.size, 4, none⟩)) #[true, true, true, false, false, false, false, false] rfl rfl (by kernel_rfl) (fun _ _ _ h => h) (Or.inl ⟨by rfl, ?_⟩) hS rfl ?_
      · (intro W hW; obtain ⟨q0, q1⟩ := hW; go_simp)
      try simp only [Act.put, List.setIfInBounds_toArray, List.set_cons_zero, List.set_cons_succ]
      refine take_ (i := 3) (v := .slice A4 e.after.length c4) #[true, true, true, true, false, false, false, false] rfl rfl (by kernel_rfl) (fun _ _ _ h => h) (Or.inl ⟨by rfl, ?_⟩) hS rfl ?_
      · (intro W hW; obtain ⟨q0, q1⟩ := hW; go_simp)
      try simp only [Act.put, List.setIfInBounds_toArray, List.set_cons_zero, List.set_cons_succ]
      refine one_ (i := 4) #[true, true, true, true, true, false, false, false] rfl rfl (by kernel_rfl) (by decide) (fun K hK => ?_)
      rw [if_pos (by rfl)]
      go_simp
      refine (HCl4.out _ HB1.out.drew).mono ?_
      rintro x w2 ⟨v2, rfl, hR2, hb2⟩
      obtain ⟨A2, c2, rfl⟩ := Kd.R_slice hR2
      have HC2 := Aside0.mk (Kd.R_reads' hR2)
      have HR2 := Aside0.mk hR2
      have hbw := ((Below.refl w1.heap.size w1).drew).trans hb2
      have hs2 := And.intro (pw_cell_below hbw k2) (pw_cell_below hbw k4)
      have kr2 := (hbw.block (w.heap.size + 1) HLt.out).trans HR1.out
      have HB2 := Aside0.mk (HB1.out.trans (hbw.mono HB1.out.size))
      clear hR2 hb2 hbw
      refine hK.out _ _ hs2 (fun hS3 => ?_)
      try simp only [Act.put, List.setIfInBounds_toArray, List.set_cons_zero, List.set_cons_succ]
      refine take_ (i := 5) (v := .agg #[.int .i64 1, .string e.table, .slice A2 e.after.length c2, .int .i64 0, .string ⟨#[]⟩, .slice none 0 0, .int .i64 0, .string ⟨#[]⟩, .int .i64 0, .bool false]) #[true, true, true, true, true, true, false, false] rfl rfl (by kernel_rfl) (fun _ _ _ h => h) (Or.inl ⟨by rfl, ?_⟩) hS3 rfl ?_
      · (intro W hW; go_simp)
      try simp only [Act.put, List.setIfInBounds_toArray, List.set_cons_zero, List.set_cons_succ]
      refine last_ (i := 6) #[true, true, true, true, true, true, true, false] rfl rfl (by kernel_rfl) (by decide) (fun K2 hK2 => ?_)
      rw [if_pos (by rfl)]
      refine wp_store_row 60 (.tmp 2) (.tmp 15) rfl (w.heap.size + 1) #[.int .i64 1, .string e.table, .slice A2 e.after.length c2, .int .i64 0, .string ⟨#[]⟩, .slice none 0 0, .int .i64 0, .string ⟨#[]⟩, .int .i64 0, .bool false] rfl rfl 60 #[.int .i64 0, .string ⟨#[]⟩, .slice none 0 0, .int .i64 0, .string ⟨#[]⟩, .slice none 0 0, .int .i64 0, .string ⟨#[]⟩, .int .i64 0, .bool false] kr2 (by kernel_rfl) rfl (by simp [Value.oneCell']) ?_
      refine hK2.out _ _ ?_
      refine pure_ (i := 7) (v := .bool true) #[true, true, true, true, true, true, true, true] rfl rfl (by kernel_rfl) (fun _ _ _ h => h) (Or.inl ⟨by rfl, ?_⟩) rfl ?_
      · (intro W; go_simp)
      try simp only [Act.put, List.setIfInBounds_toArray, List.set_cons_zero, List.set_cons_succ]
      refine done_ (by kernel_rfl) ?_
      clear hK hK2
      have kr3 := setRow_heap w2 (w.heap.size + 1) #[.int .i64 0, .string ⟨#[]⟩, .slice none 0 0, .int .i64 0, .string ⟨#[]⟩, .slice none 0 0, .int .i64 0, .string ⟨#[]⟩, .int .i64 0, .bool false] #[.int .i64 1, .string e.table, .slice A2 e.after.length c2, .int .i64 0, .string ⟨#[]⟩, .slice none 0 0, .int .i64 0, .string ⟨#[]⟩, .int .i64 0, .bool false] 60 _ kr2
      have HB3 := Aside0.mk (below_setRow HB2.out (by omega : w.heap.size ≤ w.heap.size + 1) #[.int .i64 1, .string e.table, .slice A2 e.after.length c2, .int .i64 0, .string ⟨#[]⟩, .slice none 0 0, .int .i64 0, .string ⟨#[]⟩, .int .i64 0, .bool false])
      have HC3 := Aside0.mk (F_row2 HR2.out (w.heap.size + 1) #[.int .i64 1, .string e.table, .slice A2 e.after.length c2, .int .i64 0, .string ⟨#[]⟩, .slice none 0 0, .int .i64 0, .string ⟨#[]⟩, .int .i64 0, .bool false] (by have := HLt.out; have : w1.drew.heap.size = w1.heap.size := rfl; omega))
      have p0 : (w2.setRow (w.heap.size + 1) #[.int .i64 1, .string e.table, .slice A2 e.after.length c2, .int .i64 0, .string ⟨#[]⟩, .slice none 0 0, .int .i64 0, .string ⟨#[]⟩, .int .i64 0, .bool false]).cell? ⟨w.heap.size + 1, 0, none⟩ = some (.int .i64 1) := cell_of_row _ _ 0 _ _ _ kr3
      have p1 : (w2.setRow (w.heap.size + 1) #[.int .i64 1, .string e.table, .slice A2 e.after.length c2, .int .i64 0, .string ⟨#[]⟩, .slice none 0 0, .int .i64 0, .string ⟨#[]⟩, .int .i64 0, .bool false]).cell? ⟨w.heap.size + 1, 1, none⟩ = some (.string e.table) := cell_of_row _ _ 1 _ _ _ kr3
      have p2 : (w2.setRow (w.heap.size + 1) #[.int .i64 1, .string e.table, .slice A2 e.after.length c2, .int .i64 0, .string ⟨#[]⟩, .slice none 0 0, .int .i64 0, .string ⟨#[]⟩, .int .i64 0, .bool false]).cell? ⟨w.heap.size + 1, 2, none⟩ = some (.slice A2 e.after.length c2) := cell_of_row _ _ 2 _ _ _ kr3
      have p3 : (w2.setRow (w.heap.size + 1) #[.int .i64 1, .string e.table, .slice A2 e.after.length c2, .int .i64 0, .string ⟨#[]⟩, .slice none 0 0, .int .i64 0, .string ⟨#[]⟩, .int .i64 0, .bool false]).cell? ⟨w.heap.size + 1, 3, none⟩ = some (.int .i64 0) := cell_of_row _ _ 3 _ _ _ kr3
      have p4 : (w2.setRow (w.heap.size + 1) #[.int .i64 1, .string e.table, .slice A2 e.after.length c2, .int .i64 0, .string ⟨#[]⟩, .slice none 0 0, .int .i64 0, .string ⟨#[]⟩, .int .i64 0, .bool false]).cell? ⟨w.heap.size + 1, 4, none⟩ = some (.string ⟨#[]⟩) := cell_of_row _ _ 4 _ _ _ kr3
      have p5 : (w2.setRow (w.heap.size + 1) #[.int .i64 1, .string e.table, .slice A2 e.after.length c2, .int .i64 0, .string ⟨#[]⟩, .slice none 0 0, .int .i64 0, .string ⟨#[]⟩, .int .i64 0, .bool false]).cell? ⟨w.heap.size + 1, 5, none⟩ = some (.slice none 0 0) := cell_of_row _ _ 5 _ _ _ kr3
      have p6 : (w2.setRow (w.heap.size + 1) #[.int .i64 1, .string e.table, .slice A2 e.after.length c2, .int .i64 0, .string ⟨#[]⟩, .slice none 0 0, .int .i64 0, .string ⟨#[]⟩, .int .i64 0, .bool false]).cell? ⟨w.heap.size + 1, 6, none⟩ = some (.int .i64 0) := cell_of_row _ _ 6 _ _ _ kr3
      have p7 : (w2.setRow (w.heap.size + 1) #[.int .i64 1, .string e.table, .slice A2 e.after.length c2, .int .i64 0, .string ⟨#[]⟩, .slice none 0 0, .int .i64 0, .string ⟨#[]⟩, .int .i64 0, .bool false]).cell? ⟨w.heap.size + 1, 7, none⟩ = some (.string ⟨#[]⟩) := cell_of_row _ _ 7 _ _ _ kr3
      have p8 : (w2.setRow (w.heap.size + 1) #[.int .i64 1, .string e.table, .slice A2 e.after.length c2, .int .i64 0, .string ⟨#[]⟩, .slice none 0 0, .int .i64 0, .string ⟨#[]⟩, .int .i64 0, .bool false]).cell? ⟨w.heap.size + 1, 8, none⟩ = some (.int .i64 0) := cell_of_row _ _ 8 _ _ _ kr3
      have p9 : (w2.setRow (w.heap.size + 1) #[.int .i64 1, .string e.table, .slice A2 e.after.length c2, .int .i64 0, .string ⟨#[]⟩, .slice none 0 0, .int .i64 0, .string ⟨#[]⟩, .int .i64 0, .bool false]).cell? ⟨w.heap.size + 1, 9, none⟩ = some (.bool false) := cell_of_row _ _ 9 _ _ _ kr3
      clear kr3 kr2 hs2
      generalize w2.setRow (w.heap.size + 1) #[.int .i64 1, .string e.table, .slice A2 e.after.length c2, .int .i64 0, .string ⟨#[]⟩, .slice none 0 0, .int .i64 0, .string ⟨#[]⟩, .int .i64 0, .bool false] = w3 at *
      go_wp2
      exact bodyPost_ret (v := .tuple #[.agg #[.int .i64 1, .string e.table, .slice A2 e.after.length c2, .int .i64 0, .string ⟨#[]⟩, .slice none 0 0, .int .i64 0, .string ⟨#[]⟩, .int .i64 0, .bool false], .bool true]) (by simp [results, Tryz.results31, go_sem, p0, p1, p2, p3, p4, p5, p6, p7, p8, p9]) rfl ⟨A2, c2, none, 0, rfl, HC2.out.2.1, HC3.out, Nat.le_refl _, Kd.C_nil _ _, HB3.out⟩
    · skip
      by_cases h5 : e.kind = 5
      · obtain ⟨q1, q2⟩ := of_off h5
        rw [q1, q2]
        clear q1 q2
        have e3 : (e.kind == 3) = false := beq_eq_false_iff_ne.2 h3
        have e4 : (e.kind == 4) = false := beq_eq_false_iff_ne.2 h4
        have e5 : (e.kind == 5) = true := beq_iff_eq.2 h5
        clear h3 h4 h5
        go_enter Tryz.func31, Tryz.ntmps31
        go_wp2_with fail
        have hr0 : ((w.alloc (.cells #[.int .i64 e.kind, .int .i64 e.num, .string e.table, .slice A3 e.before.length c3, .slice A4 e.after.length c4, .int .i64 e.change.kind, .string e.change.table, .slice A7 e.change.schema.cols.length c7, .int .i64 e.change.schema.keys, .string e.change.column.name, .int .i64 e.change.column.kind, .bool e.change.column.none] 55)).alloc (.cells #[.int .i64 0, .string ⟨#[]⟩, .slice none 0 0, .int .i64 0, .string ⟨#[]⟩, .slice none 0 0, .int .i64 0, .string ⟨#[]⟩, .int .i64 0, .bool false] 60)).heap[w.heap.size]? = some (.cells #[.int .i64 e.kind, .int .i64 e.num, .string e.table, .slice A3 e.before.length c3, .slice A4 e.after.length c4, .int .i64 e.change.kind, .string e.change.table, .slice A7 e.change.schema.cols.length c7, .int .i64 e.change.schema.keys, .string e.change.column.name, .int .i64 e.change.column.kind, .bool e.change.column.none] 55 (0, 0)) := heap_alloc2_old _ _ _
        have hr1 : ((w.alloc (.cells #[.int .i64 e.kind, .int .i64 e.num, .string e.table, .slice A3 e.before.length c3, .slice A4 e.after.length c4, .int .i64 e.change.kind, .string e.change.table, .slice A7 e.change.schema.cols.length c7, .int .i64 e.change.schema.keys, .string e.change.column.name, .int .i64 e.change.column.kind, .bool e.change.column.none] 55)).alloc (.cells #[.int .i64 0, .string ⟨#[]⟩, .slice none 0 0, .int .i64 0, .string ⟨#[]⟩, .slice none 0 0, .int .i64 0, .string ⟨#[]⟩, .int .i64 0, .bool false] 60)).heap[w.heap.size + 1]? = some (.cells #[.int .i64 0, .string ⟨#[]⟩, .slice none 0 0, .int .i64 0, .string ⟨#[]⟩, .slice none 0 0, .int .i64 0, .string ⟨#[]⟩, .int .i64 0, .bool false] 60 (0, 0)) := heap_alloc2_new _ _ _
        have hb1 := hbb (.cells #[.int .i64 e.kind, .int .i64 e.num, .string e.table, .slice A3 e.before.length c3, .slice A4 e.after.length c4, .int .i64 e.change.kind, .string e.change.table, .slice A7 e.change.schema.cols.length c7, .int .i64 e.change.schema.keys, .string e.change.column.name, .int .i64 e.change.column.kind, .bool e.change.column.none] 55) (.cells #[.int .i64 0, .string ⟨#[]⟩, .slice none 0 0, .int .i64 0, .string ⟨#[]⟩, .slice none 0 0, .int .i64 0, .string ⟨#[]⟩, .int .i64 0, .bool false] 60)
        generalize ((w.alloc (.cells #[.int .i64 e.kind, .int .i64 e.num, .string e.table, .slice A3 e.before.length c3, .slice A4 e.after.length c4, .int .i64 e.change.kind, .string e.change.table, .slice A7 e.change.schema.cols.length c7, .int .i64 e.change.schema.keys, .string e.change.column.name, .int .i64 e.change.column.kind, .bool e.change.column.none] 55)).alloc (.cells #[.int .i64 0, .string ⟨#[]⟩, .slice none 0 0, .int .i64 0, .string ⟨#[]⟩, .slice none 0 0, .int .i64 0, .string ⟨#[]⟩, .int .i64 0, .bool false] 60)) = w1 at *
        have k2 : w1.cell? ⟨w.heap.size, 2, none⟩ = some (.string e.table) := cell_of_row w1 _ 2 _ _ _ hr0
        have k4 : w1.cell? ⟨w.heap.size, 3, none⟩ = some (.slice A3 e.before.length c3) := cell_of_row w1 _ 3 _ _ _ hr0
        have HR1 := Aside0.mk hr1
        have HB1 := Aside0.mk hb1
        have HLt := Aside0.mk (Array.getElem?_eq_some_iff.1 hr1).1
        clear hr0 hr1 hb1 hbb
        refine start_ (S := fun W => W.cell? ⟨w.heap.size, 2, none⟩ = some (.string e.table) ∧ W.cell? ⟨w.heap.size, 3, none⟩ = some (.slice A3 e.before.length c3)) (ds := [6]) #[false, false, false, false, false, false, false, false] (by kernel_rfl) rfl rfl (And.intro k2 k4) (fun hS => ?_)
        refine take_ (i := 0) (v := .pointer (some ⟨w.heap.size, 2, none⟩)) #[true, false, false, false, false, false, false, false] rfl rfl (by kernel_rfl) (fun _ _ _ h => h) (Or.inl ⟨by rfl, ?_⟩) hS rfl ?_
        · (intro W hW; obtain ⟨q0, q1⟩ := hW; go_simp)
        try simp only [Act.put, List.setIfInBounds_toArray, List.set_cons_zero, List.set_cons_succ]
        refine take_ (i := 1) (v := .string e.table) #[true, true, false, false, false, false, false, false] rfl rfl (by kernel_rfl) (fun _ _ _ h => h) (Or.inl ⟨by rfl, ?_⟩) hS rfl ?_
        · (intro W hW; obtain ⟨q0, q1⟩ := hW; go_simp)
        try simp only [Act.put, List.setIfInBounds_toArray, List.set_cons_zero, List.set_cons_succ]
        refine take_ (i := 2) (v := .pointer (some ⟨w.heap.size, 3, none⟩)) #[true, true, true, false, false, false, false, false] rfl rfl (by kernel_rfl) (fun _ _ _ h => h) (Or.inl ⟨by rfl, ?_⟩) hS rfl ?_
        · (intro W hW; obtain ⟨q0, q1⟩ := hW; go_simp)
        try simp only [Act.put, List.setIfInBounds_toArray, List.set_cons_zero, List.set_cons_succ]
        refine take_ (i := 3) (v := .slice A3 e.before.length c3) #[true, true, true, true, false, false, false, false] rfl rfl (by kernel_rfl) (fun _ _ _ h => h) (Or.inl ⟨by rfl, ?_⟩) hS rfl ?_
        · (intro W hW; obtain ⟨q0, q1⟩ := hW; go_simp)
        try simp only [Act.put, List.setIfInBounds_toArray, List.set_cons_zero, List.set_cons_succ]
        refine one_ (i := 4) #[true, true, true, true, true, false, false, false] rfl rfl (by kernel_rfl) (by decide) (fun K hK => ?_)
        rw [if_pos (by rfl)]
        go_simp
        refine (HCl3.out _ HB1.out.drew).mono ?_
        rintro x w2 ⟨v2, rfl, hR2, hb2⟩
        obtain ⟨A2, c2, rfl⟩ := Kd.R_slice hR2
        have HC2 := Aside0.mk (Kd.R_reads' hR2)
        have HR2 := Aside0.mk hR2
        have hbw := ((Below.refl w1.heap.size w1).drew).trans hb2
        have hs2 := And.intro (pw_cell_below hbw k2) (pw_cell_below hbw k4)
        have kr2 := (hbw.block (w.heap.size + 1) HLt.out).trans HR1.out
        have HB2 := Aside0.mk (HB1.out.trans (hbw.mono HB1.out.size))
        clear hR2 hb2 hbw
        refine hK.out _ _ hs2 (fun hS3 => ?_)
        try simp only [Act.put, List.setIfInBounds_toArray, List.set_cons_zero, List.set_cons_succ]
        refine take_ (i := 5) (v := .agg #[.int .i64 2, .string e.table, .slice A2 e.before.length c2, .int .i64 0, .string ⟨#[]⟩, .slice none 0 0, .int .i64 0, .string ⟨#[]⟩, .int .i64 0, .bool false]) #[true, true, true, true, true, true, false, false] rfl rfl (by kernel_rfl) (fun _ _ _ h => h) (Or.inl ⟨by rfl, ?_⟩) hS3 rfl ?_
        · (intro W hW; go_simp)
        try simp only [Act.put, List.setIfInBounds_toArray, List.set_cons_zero, List.set_cons_succ]
        refine last_ (i := 6) #[true, true, true, true, true, true, true, false] rfl rfl (by kernel_rfl) (by decide) (fun K2 hK2 => ?_)
        rw [if_pos (by rfl)]
        refine wp_store_row 60 (.tmp 2) (.tmp 23) rfl (w.heap.size + 1) #[.int .i64 2, .string e.table, .slice A2 e.before.length c2, .int .i64 0, .string ⟨#[]⟩, .slice none 0 0, .int .i64 0, .string ⟨#[]⟩, .int .i64 0, .bool false] rfl rfl 60 #[.int .i64 0, .string ⟨#[]⟩, .slice none 0 0, .int .i64 0, .string ⟨#[]⟩, .slice none 0 0, .int .i64 0, .string ⟨#[]⟩, .int .i64 0, .bool false] kr2 (by kernel_rfl) rfl (by simp [Value.oneCell']) ?_
        refine hK2.out _ _ ?_
        refine pure_ (i := 7) (v := .bool true) #[true, true, true, true, true, true, true, true] rfl rfl (by kernel_rfl) (fun _ _ _ h => h) (Or.inl ⟨by rfl, ?_⟩) rfl ?_
        · (intro W; go_simp)
        try simp only [Act.put, List.setIfInBounds_toArray, List.set_cons_zero, List.set_cons_succ]
        refine done_ (by kernel_rfl) ?_
        clear hK hK2
        have kr3 := setRow_heap w2 (w.heap.size + 1) #[.int .i64 0, .string ⟨#[]⟩, .slice none 0 0, .int .i64 0, .string ⟨#[]⟩, .slice none 0 0, .int .i64 0, .string ⟨#[]⟩, .int .i64 0, .bool false] #[.int .i64 2, .string e.table, .slice A2 e.before.length c2, .int .i64 0, .string ⟨#[]⟩, .slice none 0 0, .int .i64 0, .string ⟨#[]⟩, .int .i64 0, .bool false] 60 _ kr2
        have HB3 := Aside0.mk (below_setRow HB2.out (by omega : w.heap.size ≤ w.heap.size + 1) #[.int .i64 2, .string e.table, .slice A2 e.before.length c2, .int .i64 0, .string ⟨#[]⟩, .slice none 0 0, .int .i64 0, .string ⟨#[]⟩, .int .i64 0, .bool false])
        have HC3 := Aside0.mk (F_row2 HR2.out (w.heap.size + 1) #[.int .i64 2, .string e.table, .slice A2 e.before.length c2, .int .i64 0, .string ⟨#[]⟩, .slice none 0 0, .int .i64 0, .string ⟨#[]⟩, .int .i64 0, .bool false] (by have := HLt.out; have : w1.drew.heap.size = w1.heap.size := rfl; omega))
        have p0 : (w2.setRow (w.heap.size + 1) #[.int .i64 2, .string e.table, .slice A2 e.before.length c2, .int .i64 0, .string ⟨#[]⟩, .slice none 0 0, .int .i64 0, .string ⟨#[]⟩, .int .i64 0, .bool false]).cell? ⟨w.heap.size + 1, 0, none⟩ = some (.int .i64 2) := cell_of_row _ _ 0 _ _ _ kr3
        have p1 : (w2.setRow (w.heap.size + 1) #[.int .i64 2, .string e.table, .slice A2 e.before.length c2, .int .i64 0, .string ⟨#[]⟩, .slice none 0 0, .int .i64 0, .string ⟨#[]⟩, .int .i64 0, .bool false]).cell? ⟨w.heap.size + 1, 1, none⟩ = some (.string e.table) := cell_of_row _ _ 1 _ _ _ kr3
        have p2 : (w2.setRow (w.heap.size + 1) #[.int .i64 2, .string e.table, .slice A2 e.before.length c2, .int .i64 0, .string ⟨#[]⟩, .slice none 0 0, .int .i64 0, .string ⟨#[]⟩, .int .i64 0, .bool false]).cell? ⟨w.heap.size + 1, 2, none⟩ = some (.slice A2 e.before.length c2) := cell_of_row _ _ 2 _ _ _ kr3
        have p3 : (w2.setRow (w.heap.size + 1) #[.int .i64 2, .string e.table, .slice A2 e.before.length c2, .int .i64 0, .string ⟨#[]⟩, .slice none 0 0, .int .i64 0, .string ⟨#[]⟩, .int .i64 0, .bool false]).cell? ⟨w.heap.size + 1, 3, none⟩ = some (.int .i64 0) := cell_of_row _ _ 3 _ _ _ kr3
        have p4 : (w2.setRow (w.heap.size + 1) #[.int .i64 2, .string e.table, .slice A2 e.before.length c2, .int .i64 0, .string ⟨#[]⟩, .slice none 0 0, .int .i64 0, .string ⟨#[]⟩, .int .i64 0, .bool false]).cell? ⟨w.heap.size + 1, 4, none⟩ = some (.string ⟨#[]⟩) := cell_of_row _ _ 4 _ _ _ kr3
        have p5 : (w2.setRow (w.heap.size + 1) #[.int .i64 2, .string e.table, .slice A2 e.before.length c2, .int .i64 0, .string ⟨#[]⟩, .slice none 0 0, .int .i64 0, .string ⟨#[]⟩, .int .i64 0, .bool false]).cell? ⟨w.heap.size + 1, 5, none⟩ = some (.slice none 0 0) := cell_of_row _ _ 5 _ _ _ kr3
        have p6 : (w2.setRow (w.heap.size + 1) #[.int .i64 2, .string e.table, .slice A2 e.before.length c2, .int .i64 0, .string ⟨#[]⟩, .slice none 0 0, .int .i64 0, .string ⟨#[]⟩, .int .i64 0, .bool false]).cell? ⟨w.heap.size + 1, 6, none⟩ = some (.int .i64 0) := cell_of_row _ _ 6 _ _ _ kr3
        have p7 : (w2.setRow (w.heap.size + 1) #[.int .i64 2, .string e.table, .slice A2 e.before.length c2, .int .i64 0, .string ⟨#[]⟩, .slice none 0 0, .int .i64 0, .string ⟨#[]⟩, .int .i64 0, .bool false]).cell? ⟨w.heap.size + 1, 7, none⟩ = some (.string ⟨#[]⟩) := cell_of_row _ _ 7 _ _ _ kr3
        have p8 : (w2.setRow (w.heap.size + 1) #[.int .i64 2, .string e.table, .slice A2 e.before.length c2, .int .i64 0, .string ⟨#[]⟩, .slice none 0 0, .int .i64 0, .string ⟨#[]⟩, .int .i64 0, .bool false]).cell? ⟨w.heap.size + 1, 8, none⟩ = some (.int .i64 0) := cell_of_row _ _ 8 _ _ _ kr3
        have p9 : (w2.setRow (w.heap.size + 1) #[.int .i64 2, .string e.table, .slice A2 e.before.length c2, .int .i64 0, .string ⟨#[]⟩, .slice none 0 0, .int .i64 0, .string ⟨#[]⟩, .int .i64 0, .bool false]).cell? ⟨w.heap.size + 1, 9, none⟩ = some (.bool false) := cell_of_row _ _ 9 _ _ _ kr3
        clear kr3 kr2 hs2
        generalize w2.setRow (w.heap.size + 1) #[.int .i64 2, .string e.table, .slice A2 e.before.length c2, .int .i64 0, .string ⟨#[]⟩, .slice none 0 0, .int .i64 0, .string ⟨#[]⟩, .int .i64 0, .bool false] = w3 at *
        go_wp2
        exact bodyPost_ret (v := .tuple #[.agg #[.int .i64 2, .string e.table, .slice A2 e.before.length c2, .int .i64 0, .string ⟨#[]⟩, .slice none 0 0, .int .i64 0, .string ⟨#[]⟩, .int .i64 0, .bool false], .bool true]) (by simp [results, Tryz.results31, go_sem, p0, p1, p2, p3, p4, p5, p6, p7, p8, p9]) rfl ⟨A2, c2, none, 0, rfl, HC2.out.2.1, HC3.out, Nat.le_refl _, Kd.C_nil _ _, HB3.out⟩
      · skip
        by_cases h6 : e.kind = 6
        · obtain ⟨q1, q2⟩ := of_turn h6
          rw [q1, q2]
          clear q1 q2
          have e3 : (e.kind == 3) = false := beq_eq_false_iff_ne.2 h3
          have e4 : (e.kind == 4) = false := beq_eq_false_iff_ne.2 h4
          have e5 : (e.kind == 5) = false := beq_eq_false_iff_ne.2 h5
          have e6 : (e.kind == 6) = true := beq_iff_eq.2 h6
          clear h3 h4 h5 h6
          go_enter Tryz.func31, Tryz.ntmps31
          go_wp2_with fail
          have hx2 : (((w.alloc (.cells #[.int .i64 e.kind, .int .i64 e.num, .string e.table, .slice A3 e.before.length c3, .slice A4 e.after.length c4, .int .i64 e.change.kind, .string e.change.table, .slice A7 e.change.schema.cols.length c7, .int .i64 e.change.schema.keys, .string e.change.column.name, .int .i64 e.change.column.kind, .bool e.change.column.none] 55)).alloc (.cells #[.int .i64 0, .string ⟨#[]⟩, .slice none 0 0, .int .i64 0, .string ⟨#[]⟩, .slice none 0 0, .int .i64 0, .string ⟨#[]⟩, .int .i64 0, .bool false] 60)).alloc (.cells #[.int .i64 e.change.kind, .string e.change.table, .slice A7 e.change.schema.cols.length c7, .int .i64 e.change.schema.keys, .string e.change.column.name, .int .i64 e.change.column.kind, .bool e.change.column.none] 53)).heap[w.heap.size + 2]? = some (.cells #[.int .i64 e.change.kind, .string e.change.table, .slice A7 e.change.schema.cols.length c7, .int .i64 e.change.schema.keys, .string e.change.column.name, .int .i64 e.change.column.kind, .bool e.change.column.none] 53 (0, 0)) := by
            have h := heap_alloc_new ((w.alloc (.cells #[.int .i64 e.kind, .int .i64 e.num, .string e.table, .slice A3 e.before.length c3, .slice A4 e.after.length c4, .int .i64 e.change.kind, .string e.change.table, .slice A7 e.change.schema.cols.length c7, .int .i64 e.change.schema.keys, .string e.change.column.name, .int .i64 e.change.column.kind, .bool e.change.column.none] 55)).alloc (.cells #[.int .i64 0, .string ⟨#[]⟩, .slice none 0 0, .int .i64 0, .string ⟨#[]⟩, .slice none 0 0, .int .i64 0, .string ⟨#[]⟩, .int .i64 0, .bool false] 60)) (.cells #[.int .i64 e.change.kind, .string e.change.table, .slice A7 e.change.schema.cols.length c7, .int .i64 e.change.schema.keys, .string e.change.column.name, .int .i64 e.change.column.kind, .bool e.change.column.none] 53)
            rwa [show ((w.alloc (.cells #[.int .i64 e.kind, .int .i64 e.num, .string e.table, .slice A3 e.before.length c3, .slice A4 e.after.length c4, .int .i64 e.change.kind, .string e.change.table, .slice A7 e.change.schema.cols.length c7, .int .i64 e.change.schema.keys, .string e.change.column.name, .int .i64 e.change.column.kind, .bool e.change.column.none] 55)).alloc (.cells #[.int .i64 0, .string ⟨#[]⟩, .slice none 0 0, .int .i64 0, .string ⟨#[]⟩, .slice none 0 0, .int .i64 0, .string ⟨#[]⟩, .int .i64 0, .bool false] 60)).heap.size = w.heap.size + 2 by simp] at h
          have hx1 : (((w.alloc (.cells #[.int .i64 e.kind, .int .i64 e.num, .string e.table, .slice A3 e.before.length c3, .slice A4 e.after.length c4, .int .i64 e.change.kind, .string e.change.table, .slice A7 e.change.schema.cols.length c7, .int .i64 e.change.schema.keys, .string e.change.column.name, .int .i64 e.change.column.kind, .bool e.change.column.none] 55)).alloc (.cells #[.int .i64 0, .string ⟨#[]⟩, .slice none 0 0, .int .i64 0, .string ⟨#[]⟩, .slice none 0 0, .int .i64 0, .string ⟨#[]⟩, .int .i64 0, .bool false] 60)).alloc (.cells #[.int .i64 e.change.kind, .string e.change.table, .slice A7 e.change.schema.cols.length c7, .int .i64 e.change.schema.keys, .string e.change.column.name, .int .i64 e.change.column.kind, .bool e.change.column.none] 53)).heap[w.heap.size + 1]? = some (.cells #[.int .i64 0, .string ⟨#[]⟩, .slice none 0 0, .int .i64 0, .string ⟨#[]⟩, .slice none 0 0, .int .i64 0, .string ⟨#[]⟩, .int .i64 0, .bool false] 60 (0, 0)) := ((Below.refl _ ((w.alloc (.cells #[.int .i64 e.kind, .int .i64 e.num, .string e.table, .slice A3 e.before.length c3, .slice A4 e.after.length c4, .int .i64 e.change.kind, .string e.change.table, .slice A7 e.change.schema.cols.length c7, .int .i64 e.change.schema.keys, .string e.change.column.name, .int .i64 e.change.column.kind, .bool e.change.column.none] 55)).alloc (.cells #[.int .i64 0, .string ⟨#[]⟩, .slice none 0 0, .int .i64 0, .string ⟨#[]⟩, .slice none 0 0, .int .i64 0, .string ⟨#[]⟩, .int .i64 0, .bool false] 60))).alloc (Nat.le_refl _) (.cells #[.int .i64 e.change.kind, .string e.change.table, .slice A7 e.change.schema.cols.length c7, .int .i64 e.change.schema.keys, .string e.change.column.name, .int .i64 e.change.column.kind, .bool e.change.column.none] 53) |>.block (w.heap.size + 1) (by simp)).trans (heap_alloc2_new _ _ _)
          have hbx : Below w.heap.size w (((w.alloc (.cells #[.int .i64 e.kind, .int .i64 e.num, .string e.table, .slice A3 e.before.length c3, .slice A4 e.after.length c4, .int .i64 e.change.kind, .string e.change.table, .slice A7 e.change.schema.cols.length c7, .int .i64 e.change.schema.keys, .string e.change.column.name, .int .i64 e.change.column.kind, .bool e.change.column.none] 55)).alloc (.cells #[.int .i64 0, .string ⟨#[]⟩, .slice none 0 0, .int .i64 0, .string ⟨#[]⟩, .slice none 0 0, .int .i64 0, .string ⟨#[]⟩, .int .i64 0, .bool false] 60)).alloc (.cells #[.int .i64 e.change.kind, .string e.change.table, .slice A7 e.change.schema.cols.length c7, .int .i64 e.change.schema.keys, .string e.change.column.name, .int .i64 e.change.column.kind, .bool e.change.column.none] 53)) := (hbb _ _).alloc (by simp; omega) _
          have hsx : (((w.alloc (.cells #[.int .i64 e.kind, .int .i64 e.num, .string e.table, .slice A3 e.before.length c3, .slice A4 e.after.length c4, .int .i64 e.change.kind, .string e.change.table, .slice A7 e.change.schema.cols.length c7, .int .i64 e.change.schema.keys, .string e.change.column.name, .int .i64 e.change.column.kind, .bool e.change.column.none] 55)).alloc (.cells #[.int .i64 0, .string ⟨#[]⟩, .slice none 0 0, .int .i64 0, .string ⟨#[]⟩, .slice none 0 0, .int .i64 0, .string ⟨#[]⟩, .int .i64 0, .bool false] 60)).alloc (.cells #[.int .i64 e.change.kind, .string e.change.table, .slice A7 e.change.schema.cols.length c7, .int .i64 e.change.schema.keys, .string e.change.column.name, .int .i64 e.change.column.kind, .bool e.change.column.none] 53)).heap.size = w.heap.size + 3 := by simp
          generalize (((w.alloc (.cells #[.int .i64 e.kind, .int .i64 e.num, .string e.table, .slice A3 e.before.length c3, .slice A4 e.after.length c4, .int .i64 e.change.kind, .string e.change.table, .slice A7 e.change.schema.cols.length c7, .int .i64 e.change.schema.keys, .string e.change.column.name, .int .i64 e.change.column.kind, .bool e.change.column.none] 55)).alloc (.cells #[.int .i64 0, .string ⟨#[]⟩, .slice none 0 0, .int .i64 0, .string ⟨#[]⟩, .slice none 0 0, .int .i64 0, .string ⟨#[]⟩, .int .i64 0, .bool false] 60)).alloc (.cells #[.int .i64 e.change.kind, .string e.change.table, .slice A7 e.change.schema.cols.length c7, .int .i64 e.change.schema.keys, .string e.change.column.name, .int .i64 e.change.column.kind, .bool e.change.column.none] 53)) = wx at *
          have HX1 := Aside0.mk hx1
          have HX2 := Aside0.mk hx2
          have HBX := Aside0.mk hbx
          have HSX := Aside0.mk hsx
          clear hx1 hx2 hbx hsx hbb
          refine (HCl7.out _ HBX.out).mono ?_
          rintro x w2 ⟨v2, rfl, hR2, hb2⟩
          obtain ⟨A2, c2, rfl⟩ := Kd.R_slice hR2
          have kb2 := (hb2.block (w.heap.size + 2) (by have := HSX.out; omega)).trans HX2.out
          have kr2 := (hb2.block (w.heap.size + 1) (by have := HSX.out; omega)).trans HX1.out
          have HB2 := Aside0.mk (HBX.out.trans (hb2.mono HBX.out.size))
          have HR2 := Aside0.mk hR2
          have b0 : w2.cell? ⟨w.heap.size + 2, 0, none⟩ = some (.int .i64 e.change.kind) := cell_of_row w2 _ 0 _ _ _ kb2
          have b1 : w2.cell? ⟨w.heap.size + 2, 1, none⟩ = some (.string e.change.table) := cell_of_row w2 _ 1 _ _ _ kb2
          have b2 : w2.cell? ⟨w.heap.size + 2, 2, none⟩ = some (.slice A7 e.change.schema.cols.length c7) := cell_of_row w2 _ 2 _ _ _ kb2
          have b3 : w2.cell? ⟨w.heap.size + 2, 3, none⟩ = some (.int .i64 e.change.schema.keys) := cell_of_row w2 _ 3 _ _ _ kb2
          have b4 : w2.cell? ⟨w.heap.size + 2, 4, none⟩ = some (.string e.change.column.name) := cell_of_row w2 _ 4 _ _ _ kb2
          have b5 : w2.cell? ⟨w.heap.size + 2, 5, none⟩ = some (.int .i64 e.change.column.kind) := cell_of_row w2 _ 5 _ _ _ kb2
          have b6 : w2.cell? ⟨w.heap.size + 2, 6, none⟩ = some (.bool e.change.column.none) := cell_of_row w2 _ 6 _ _ _ kb2
          have zb := frozen_of_row w2 (w.heap.size + 2) 2 _ _ kb2
          have kr3 : (w2.setCell ⟨w.heap.size + 2, 2, none⟩ (.slice A2 e.change.schema.cols.length c2)).heap[w.heap.size + 1]? = some (.cells #[.int .i64 0, .string ⟨#[]⟩, .slice none 0 0, .int .i64 0, .string ⟨#[]⟩, .slice none 0 0, .int .i64 0, .string ⟨#[]⟩, .int .i64 0, .bool false] 60 (0, 0)) := (heap_setCell_other _ _ _ _ (by simp)).trans kr2
          have KR3 := Aside0.mk kr3
          clear hR2 hb2 kb2 kr2 kr3
          go_wp2_with (with_reducible refine wpList_store_row rfl 60 (.tmp 2) (.tmp 35) rfl (w.heap.size + 1) #[.int .i64 3, .string ⟨#[]⟩, .slice none 0 0, .int .i64 e.change.kind, .string e.change.table, .slice A2 e.change.schema.cols.length c2, .int .i64 e.change.schema.keys, .string e.change.column.name, .int .i64 e.change.column.kind, .bool e.change.column.none] rfl rfl 60 #[.int .i64 0, .string ⟨#[]⟩, .slice none 0 0, .int .i64 0, .string ⟨#[]⟩, .slice none 0 0, .int .i64 0, .string ⟨#[]⟩, .int .i64 0, .bool false] KR3.out (by kernel_rfl) rfl (by simp [Value.oneCell']) ?_)
          obtain ⟨w4, hw4⟩ : ∃ w4, (w2.setCell ⟨w.heap.size + 2, 2, none⟩ (.slice A2 e.change.schema.cols.length c2)).setRow (w.heap.size + 1) #[.int .i64 3, .string ⟨#[]⟩, .slice none 0 0, .int .i64 e.change.kind, .string e.change.table, .slice A2 e.change.schema.cols.length c2, .int .i64 e.change.schema.keys, .string e.change.column.name, .int .i64 e.change.column.kind, .bool e.change.column.none] = w4 := ⟨_, rfl⟩
          have kr4 : w4.heap[w.heap.size + 1]? = some (.cells #[.int .i64 3, .string ⟨#[]⟩, .slice none 0 0, .int .i64 e.change.kind, .string e.change.table, .slice A2 e.change.schema.cols.length c2, .int .i64 e.change.schema.keys, .string e.change.column.name, .int .i64 e.change.column.kind, .bool e.change.column.none] 60 (0, 0)) := by rw [← hw4]; exact setRow_heap _ _ #[.int .i64 0, .string ⟨#[]⟩, .slice none 0 0, .int .i64 0, .string ⟨#[]⟩, .slice none 0 0, .int .i64 0, .string ⟨#[]⟩, .int .i64 0, .bool false] _ _ _ KR3.out
          have HB4 : Below w.heap.size w w4 := by rw [← hw4]; exact below_setRow (HB2.out.setCell (p := ⟨w.heap.size + 2, 2, none⟩) (by simp only; omega) _) (by omega) _
          have hC4 : kCol.C w4 A2 e.change.schema.cols.length e.change.schema.cols := by
            have h2 := Kd.R_step (Kd.R_bound HR2.out) (w1 := w4) (fun k hk hlt => by
              have h9 := hk.2.1
              have h8 := HSX.out
              rw [← hw4, setRow_other _ _ _ _ (by omega), heap_setCell_other _ _ _ _ (by simp only; omega)])
            exact (Kd.R_reads' h2).2.2
          have hc2 := (Kd.R_reads' HR2.out).2.1
          have p0 : w4.cell? ⟨w.heap.size + 1, 0, none⟩ = some (.int .i64 3) := cell_of_row _ _ 0 _ _ _ kr4
          have p1 : w4.cell? ⟨w.heap.size + 1, 1, none⟩ = some (.string ⟨#[]⟩) := cell_of_row _ _ 1 _ _ _ kr4
          have p2 : w4.cell? ⟨w.heap.size + 1, 2, none⟩ = some (.slice none 0 0) := cell_of_row _ _ 2 _ _ _ kr4
          have p3 : w4.cell? ⟨w.heap.size + 1, 3, none⟩ = some (.int .i64 e.change.kind) := cell_of_row _ _ 3 _ _ _ kr4
          have p4 : w4.cell? ⟨w.heap.size + 1, 4, none⟩ = some (.string e.change.table) := cell_of_row _ _ 4 _ _ _ kr4
          have p5 : w4.cell? ⟨w.heap.size + 1, 5, none⟩ = some (.slice A2 e.change.schema.cols.length c2) := cell_of_row _ _ 5 _ _ _ kr4
          have p6 : w4.cell? ⟨w.heap.size + 1, 6, none⟩ = some (.int .i64 e.change.schema.keys) := cell_of_row _ _ 6 _ _ _ kr4
          have p7 : w4.cell? ⟨w.heap.size + 1, 7, none⟩ = some (.string e.change.column.name) := cell_of_row _ _ 7 _ _ _ kr4
          have p8 : w4.cell? ⟨w.heap.size + 1, 8, none⟩ = some (.int .i64 e.change.column.kind) := cell_of_row _ _ 8 _ _ _ kr4
          have p9 : w4.cell? ⟨w.heap.size + 1, 9, none⟩ = some (.bool e.change.column.none) := cell_of_row _ _ 9 _ _ _ kr4
          rw [show w.heap.size + 1 + 1 = w.heap.size + 2 from rfl, hw4]
          exact bodyPost_ret (v := .tuple #[.agg #[.int .i64 3, .string ⟨#[]⟩, .slice none 0 0, .int .i64 e.change.kind, .string e.change.table, .slice A2 e.change.schema.cols.length c2, .int .i64 e.change.schema.keys, .string e.change.column.name, .int .i64 e.change.column.kind, .bool e.change.column.none], .bool true]) (by simp [results, Tryz.results31, go_sem, p0, p1, p2, p3, p4, p5, p6, p7, p8, p9]) rfl ⟨none, 0, A2, c2, rfl, Nat.le_refl _, Kd.C_nil _ _, hc2, hC4, HB4⟩
        · skip
          obtain ⟨q1, q2⟩ := of_none h3 h4 h5 h6
          rw [q1, q2]
          clear q1 q2
          have e3 : (e.kind == 3) = false := beq_eq_false_iff_ne.2 h3
          have e4 : (e.kind == 4) = false := beq_eq_false_iff_ne.2 h4
          have e5 : (e.kind == 5) = false := beq_eq_false_iff_ne.2 h5
          have e6 : (e.kind == 6) = false := beq_eq_false_iff_ne.2 h6
          go_enter Tryz.func31, Tryz.ntmps31
          go_wp2
          exact bodyPost_ret (v := .tuple #[.agg #[.int .i64 0, .string ⟨#[]⟩, .slice none 0 0, .int .i64 0, .string ⟨#[]⟩, .slice none 0 0, .int .i64 0, .string ⟨#[]⟩, .int .i64 0, .bool false], .bool false]) (by simp [results, Tryz.results31, go_sem]) rfl ⟨none, 0, none, 0, rfl, Nat.le_refl _, Kd.C_nil _ _, Nat.le_refl _, Kd.C_nil _ _, (hbb _ _)⟩
end Go.Proofs.YtmdofdaiepilbaaGreatDoor
