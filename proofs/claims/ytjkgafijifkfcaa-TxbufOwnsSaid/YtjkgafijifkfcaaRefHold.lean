/- What the document's Put does when it holds an event. Conditions: the rows read so. -/
import Derived.Test.YtjkgafijifkfcaaRefPut
import Derived.Deep.RegionHeld3
namespace Go.Proofs.Ytjkgafijifkfcaa
open Go.RowKit Go.Proofs.YtjkgafijifkfcaaW.PrintWords
set_option linter.unusedVariables false
set_option linter.unusedSimpArgs false
theorem ref_blocks (w : World) (a b c d : Array Value) (s t u v : TypeId) : ((((w.alloc (.cells a s)).alloc (.cells b t)).alloc (.cells c u)).alloc (.cells d v)).heap[w.heap.size]? = some (.cells a s (0, 0)) ∧ ((((w.alloc (.cells a s)).alloc (.cells b t)).alloc (.cells c u)).alloc (.cells d v)).heap[w.heap.size + 1]? = some (.cells b t (0, 0)) ∧ ((((w.alloc (.cells a s)).alloc (.cells b t)).alloc (.cells c u)).alloc (.cells d v)).heap[w.heap.size + 1 + 1]? = some (.cells c u (0, 0)) ∧ ((((w.alloc (.cells a s)).alloc (.cells b t)).alloc (.cells c u)).alloc (.cells d v)).heap.size = w.heap.size + 4 := by
  have h1 : (w.alloc (.cells a s)).heap.size = w.heap.size + 1 := by simp
  have h2 : ((w.alloc (.cells a s)).alloc (.cells b t)).heap.size = w.heap.size + 1 + 1 := by simp
  have e0 := heap_alloc_new w (.cells a s)
  have e1 := heap_alloc_new (w.alloc (.cells a s)) (.cells b t)
  have e2 := heap_alloc_new ((w.alloc (.cells a s)).alloc (.cells b t)) (.cells c u)
  rw [h1] at e1
  rw [h2] at e2
  refine ⟨?_, ?_, ?_, by simp⟩
  · exact ((below_alloc (below_alloc (below_alloc (Below.refl (w.alloc (.cells a s)).heap.size (w.alloc (.cells a s))) (.cells b t)) (.cells c u)) (.cells d v)).block w.heap.size (by rw [h1]; omega)).trans e0
  · exact ((below_alloc (below_alloc (Below.refl ((w.alloc (.cells a s)).alloc (.cells b t)).heap.size _) (.cells c u)) (.cells d v)).block (w.heap.size + 1) (by rw [h2]; omega)).trans e1
  · exact ((below_alloc (Below.refl (((w.alloc (.cells a s)).alloc (.cells b t)).alloc (.cells c u)).heap.size _) (.cells d v)).block (w.heap.size + 1 + 1) (by simp)).trans e2
set_option maxRecDepth 100000 in
set_option maxHeartbeats 4000000 in
theorem ref_hold (ok : Nat → Prop) (base : Nat) (lim num : Int) (xs : List Ev) (x : Ev) (A : Option Addr) (c : Nat) {A3 A4 A7 : Option Addr} {c3 c4 c7 : Nat} (w : World) (hN : Kd.N kEv 49 w base ok (.slice A xs.length c) xs) (hk : x.kind = 3 ∨ x.kind = 4 ∨ x.kind = 5 ∨ x.kind = 6) (hn : 0 ≤ num) (hf : (xs.length : Int) < lim) (hl : xs.length ≤ 1000000) (hbase : base ≤ w.heap.size) (hfr : ∀ k, w.heap.size ≤ k → ok k) (okx : Nat → Prop) (hX : Kd.FK kEv w okx x #[.int .i64 x.kind, .int .i64 x.num, .string x.table, .slice A3 x.before.length c3, .slice A4 x.after.length c4, .int .i64 x.change.kind, .string x.change.table, .slice A7 x.change.schema.cols.length c7, .int .i64 x.change.schema.keys, .string x.change.column.name, .int .i64 x.change.column.kind, .bool x.change.column.none].toList) (hox : ∀ k, okx k → ok k):
    Calls Try.prog 29 #[.agg #[.int .i64 lim, .int .i64 num, .slice A xs.length c], .agg #[.int .i64 x.kind, .int .i64 x.num, .string x.table, .slice A3 x.before.length c3, .slice A4 x.after.length c4, .int .i64 x.change.kind, .string x.change.table, .slice A7 x.change.schema.cols.length c7, .int .i64 x.change.schema.keys, .string x.change.column.name, .int .i64 x.change.column.kind, .bool x.change.column.none]] w (RefTell ok base w lim ⟨num, xs ++ [x], [], false, 0⟩) := by
  have HN := Aside0.mk hN
  clear hN
  rcases hk with hk | hk | hk | hk
  all_goals
    have b2 := beq_of_kind x.kind 2 _ hk
    have b3 := beq_of_kind x.kind 3 _ hk
    have b4 := beq_of_kind x.kind 4 _ hk
    have b5 := beq_of_kind x.kind 5 _ hk
    have b6 := beq_of_kind x.kind 6 _ hk
    have b7 := beq_of_kind x.kind 7 _ hk
    have b8 := beq_of_kind x.kind 8 _ hk
    simp only [Int.reduceBEq] at b2 b3 b4 b5 b6 b7 b8
    clear hk
    have HX := Aside0.mk hX
    have HFr := Aside0.mk hfr
    have HOX := Aside0.mk hox
    clear hX hfr hox
    go_enter Try.func29, Try.ntmps29
    go_wp2_with (at_builtin; refine Kd.N_append_rows kEv (w0 := w) w.heap.size rfl (.tmp 43) (.tmp 45) 37 49 (.agg evZero) 168 rfl Try.underlying37 infoEv rfl (by decide) (by decide) (.slice none 0 0) [] xs A xs.length c (fun k => ok k ∧ k ≠ w.heap.size + 1 + 1) (fun k => ok k ∧ k < w.heap.size) rfl rfl (Kd.N_nil _ _ _ _ _) (Kd.F_below (Kd.N_F (Kd.N_bound HN.out)) (ref_below w _ _ _ _)) (fun k hk => ⟨⟨hk.1, by omega⟩, by simp [Value.ownBlock]⟩) (fun k hk => ⟨HFr.out k (by simp at hk; omega), by simp at hk; omega⟩) (ref_below w _ _ _ _) (by simp; omega) (by simp; omega) ?_; intro v1 w1 hN1 hb1 hg1 hat1; obtain ⟨r0, r1, r2, rs⟩ := ref_blocks w #[.int .i64 lim, .int .i64 num, .slice A xs.length c] #[.int .i64 x.kind, .int .i64 x.num, .string x.table, .slice A3 x.before.length c3, .slice A4 x.after.length c4, .int .i64 x.change.kind, .string x.change.table, .slice A7 x.change.schema.cols.length c7, .int .i64 x.change.schema.keys, .string x.change.column.name, .int .i64 x.change.column.kind, .bool x.change.column.none] #[.int .i64 0, .int .i64 0, .slice none 0 0] #[.int .i64 lim, .int .i64 (-1), .slice none 0 0] 55 49 55 55; have q0 := (hg1.block w.heap.size (by rw [rs]; omega) (by simp [Value.ownBlock])).trans r0; have q1 := (hg1.block (w.heap.size + 1) (by rw [rs]; omega) (by simp [Value.ownBlock])).trans r1; have q2 := (hg1.block (w.heap.size + 1 + 1) (by rw [rs]; omega) (by simp [Value.ownBlock])).trans r2; have hs1 := hg1.size; rw [rs] at hs1 hat1; have HQ2 := Aside0.mk q2; have HAt1 := Aside0.mk hat1; rw [List.nil_append] at hN1; obtain ⟨A9, c9, rfl⟩ := Kd.N_slice hN1; have HN1 := Aside0.mk hN1; have HB1 := Aside0.mk hb1; have a0 : w1.cell? ⟨w.heap.size, 0, none⟩ = some (.int .i64 lim) := cell_of_row w1 _ 0 _ _ _ q0; have a1 : w1.cell? ⟨w.heap.size, 1, none⟩ = some (.int .i64 num) := cell_of_row w1 _ 1 _ _ _ q0; have e0 : w1.cell? ⟨w.heap.size + 1, 0, none⟩ = some (.int .i64 x.kind) := cell_of_row w1 _ 0 _ _ _ q1; have e1 : w1.cell? ⟨w.heap.size + 1, 1, none⟩ = some (.int .i64 x.num) := cell_of_row w1 _ 1 _ _ _ q1; have e2 : w1.cell? ⟨w.heap.size + 1, 2, none⟩ = some (.string x.table) := cell_of_row w1 _ 2 _ _ _ q1; have e3 : w1.cell? ⟨w.heap.size + 1, 3, none⟩ = some (.slice A3 x.before.length c3) := cell_of_row w1 _ 3 _ _ _ q1; have e4 : w1.cell? ⟨w.heap.size + 1, 4, none⟩ = some (.slice A4 x.after.length c4) := cell_of_row w1 _ 4 _ _ _ q1; have e5 : w1.cell? ⟨w.heap.size + 1, 5, none⟩ = some (.int .i64 x.change.kind) := cell_of_row w1 _ 5 _ _ _ q1; have e6 : w1.cell? ⟨w.heap.size + 1, 6, none⟩ = some (.string x.change.table) := cell_of_row w1 _ 6 _ _ _ q1; have e7 : w1.cell? ⟨w.heap.size + 1, 7, none⟩ = some (.slice A7 x.change.schema.cols.length c7) := cell_of_row w1 _ 7 _ _ _ q1; have e8 : w1.cell? ⟨w.heap.size + 1, 8, none⟩ = some (.int .i64 x.change.schema.keys) := cell_of_row w1 _ 8 _ _ _ q1; have e9 : w1.cell? ⟨w.heap.size + 1, 9, none⟩ = some (.string x.change.column.name) := cell_of_row w1 _ 9 _ _ _ q1; have e10 : w1.cell? ⟨w.heap.size + 1, 10, none⟩ = some (.int .i64 x.change.column.kind) := cell_of_row w1 _ 10 _ _ _ q1; have e11 : w1.cell? ⟨w.heap.size + 1, 11, none⟩ = some (.bool x.change.column.none) := cell_of_row w1 _ 11 _ _ _ q1; have HQ0 := Aside0.mk q0; have HQ1 := Aside0.mk q1; have k0 := (fun o => pw_cell_below (below_alloc (Below.refl _ _) o) a0); have k1 := (fun o => pw_cell_below (below_alloc (Below.refl _ _) o) a1); clear r0 r1 r2 rs q0 q1 q2 hat1 hN1 hb1 hg1)
    have HOwn9 := Aside0.mk (fun k (hk : (Value.slice A9 xs.length c9).ownBlock = some k) => Kd.N_base HN1.out k hk)
    go_region_held3 (fun W => W.cell? ⟨w.heap.size, 0, none⟩ = some (.int .i64 lim) ∧ W.cell? ⟨w.heap.size, 1, none⟩ = some (.int .i64 num) ∧ W.cell? ⟨w.heap.size + 1, 0, none⟩ = some (.int .i64 x.kind) ∧ W.cell? ⟨w.heap.size + 1, 1, none⟩ = some (.int .i64 x.num) ∧ W.cell? ⟨w.heap.size + 1, 2, none⟩ = some (.string x.table) ∧ W.cell? ⟨w.heap.size + 1, 3, none⟩ = some (.slice A3 x.before.length c3) ∧ W.cell? ⟨w.heap.size + 1, 4, none⟩ = some (.slice A4 x.after.length c4) ∧ W.cell? ⟨w.heap.size + 1, 5, none⟩ = some (.int .i64 x.change.kind) ∧ W.cell? ⟨w.heap.size + 1, 6, none⟩ = some (.string x.change.table) ∧ W.cell? ⟨w.heap.size + 1, 7, none⟩ = some (.slice A7 x.change.schema.cols.length c7) ∧ W.cell? ⟨w.heap.size + 1, 8, none⟩ = some (.int .i64 x.change.schema.keys) ∧ W.cell? ⟨w.heap.size + 1, 9, none⟩ = some (.string x.change.column.name) ∧ W.cell? ⟨w.heap.size + 1, 10, none⟩ = some (.int .i64 x.change.column.kind) ∧ W.cell? ⟨w.heap.size + 1, 11, none⟩ = some (.bool x.change.column.none))
      (first | exact HS2.out | exact HS3.out _ _ _ | go_keep)
      (first
      | (refine Kd.N_append_step kEv (w0 := w) (W := w1.drew) w.heap.size (by rfl) (.tmp 51) (.tmp 53) 37 49 (.agg evZero) 168 rfl Try.underlying37 infoEv rfl (by decide) (by decide) (.slice A9 xs.length c9) xs x [.int .i64 x.kind, .int .i64 x.num, .string x.table, .slice A3 x.before.length c3, .slice A4 x.after.length c4, .int .i64 x.change.kind, .string x.change.table, .slice A7 x.change.schema.cols.length c7, .int .i64 x.change.schema.keys, .string x.change.column.name, .int .i64 x.change.column.kind, .bool x.change.column.none] (fun k => ok k ∧ k ≠ w.heap.size + 1 + 1) (fun k => okx k ∧ k < w.heap.size) rfl rfl (Kd.FK_step (Kd.FK_bound HX.out) (fun k hk hlt => HB1.out.drew.block k hlt)) (fun k hk => ⟨⟨HOX.out k hk.1, by omega⟩, fun he => by have := HOwn9.out k he.symm; omega⟩) (fun k hk => ⟨HFr.out k (by have := HB1.out.size; simp at hk; omega), by simp at hk; omega⟩) (Kd.N_drew HN1.out) HB1.out.drew (by simp; omega) (by omega) ?_; intro v2 w2 hN2 hb2 hg2 hat2; obtain ⟨A10, c10, rfl⟩ := Kd.N_slice hN2; rw [snoc_len] at hN2 ⊢; have HN2 := Aside0.mk hN2; have HB2 := Aside0.mk hb2; have z : w2.heap[w.heap.size + 1 + 1]? = some (.cells #[.int .i64 0, .int .i64 0, .slice none 0 0] 55 (0, 0)) := (hg2.block (w.heap.size + 1 + 1) (by simp; omega) (fun he => by rcases HAt1.out with h | ⟨b, h, hb⟩ <;> rw [h] at he <;> simp [Value.ownBlock] at he <;> omega)).trans HQ2.out; have HZ := Aside0.mk z; have z0 : w2.cell? ⟨w.heap.size + 1 + 1, 0, none⟩ = some (.int .i64 0) := cell_of_row w2 _ 0 _ _ _ z; have z1 : w2.cell? ⟨w.heap.size + 1 + 1, 1, none⟩ = some (.int .i64 0) := cell_of_row w2 _ 1 _ _ _ z; have z2 : w2.cell? ⟨w.heap.size + 1 + 1, 2, none⟩ = some (.slice none 0 0) := cell_of_row w2 _ 2 _ _ _ z; have y0 := frozen_of_row w2 _ 0 _ _ z; have y1 := frozen_of_row w2 _ 1 _ _ z; have y2 := frozen_of_row w2 _ 2 _ _ z; have zz : w2.heap[w.heap.size]? = some (.cells #[.int .i64 lim, .int .i64 num, .slice A xs.length c] 55 (0, 0)) := (hg2.block w.heap.size (by simp; omega) (fun he => by rcases HAt1.out with h | ⟨b, h, hb⟩ <;> rw [h] at he <;> simp [Value.ownBlock] at he <;> omega)).trans HQ0.out; have zy : w2.heap[w.heap.size + 1]? = some (.cells #[.int .i64 x.kind, .int .i64 x.num, .string x.table, .slice A3 x.before.length c3, .slice A4 x.after.length c4, .int .i64 x.change.kind, .string x.change.table, .slice A7 x.change.schema.cols.length c7, .int .i64 x.change.schema.keys, .string x.change.column.name, .int .i64 x.change.column.kind, .bool x.change.column.none] 49 (0, 0)) := (hg2.block (w.heap.size + 1) (by simp; omega) (fun he => by rcases HAt1.out with h | ⟨b, h, hb⟩ <;> rw [h] at he <;> simp [Value.ownBlock] at he <;> omega)).trans HQ1.out; have HS2 := Aside0.mk (show w2.cell? ⟨w.heap.size, 0, none⟩ = some (.int .i64 lim) ∧ w2.cell? ⟨w.heap.size, 1, none⟩ = some (.int .i64 num) ∧ w2.cell? ⟨w.heap.size + 1, 0, none⟩ = some (.int .i64 x.kind) ∧ w2.cell? ⟨w.heap.size + 1, 1, none⟩ = some (.int .i64 x.num) ∧ w2.cell? ⟨w.heap.size + 1, 2, none⟩ = some (.string x.table) ∧ w2.cell? ⟨w.heap.size + 1, 3, none⟩ = some (.slice A3 x.before.length c3) ∧ w2.cell? ⟨w.heap.size + 1, 4, none⟩ = some (.slice A4 x.after.length c4) ∧ w2.cell? ⟨w.heap.size + 1, 5, none⟩ = some (.int .i64 x.change.kind) ∧ w2.cell? ⟨w.heap.size + 1, 6, none⟩ = some (.string x.change.table) ∧ w2.cell? ⟨w.heap.size + 1, 7, none⟩ = some (.slice A7 x.change.schema.cols.length c7) ∧ w2.cell? ⟨w.heap.size + 1, 8, none⟩ = some (.int .i64 x.change.schema.keys) ∧ w2.cell? ⟨w.heap.size + 1, 9, none⟩ = some (.string x.change.column.name) ∧ w2.cell? ⟨w.heap.size + 1, 10, none⟩ = some (.int .i64 x.change.column.kind) ∧ w2.cell? ⟨w.heap.size + 1, 11, none⟩ = some (.bool x.change.column.none) from ⟨cell_of_row w2 _ 0 _ _ _ zz, cell_of_row w2 _ 1 _ _ _ zz, cell_of_row w2 _ 0 _ _ _ zy, cell_of_row w2 _ 1 _ _ _ zy, cell_of_row w2 _ 2 _ _ _ zy, cell_of_row w2 _ 3 _ _ _ zy, cell_of_row w2 _ 4 _ _ _ zy, cell_of_row w2 _ 5 _ _ _ zy, cell_of_row w2 _ 6 _ _ _ zy, cell_of_row w2 _ 7 _ _ _ zy, cell_of_row w2 _ 8 _ _ _ zy, cell_of_row w2 _ 9 _ _ _ zy, cell_of_row w2 _ 10 _ _ _ zy, cell_of_row w2 _ 11 _ _ _ zy⟩); have h3 : ∀ (a b d : Value), (((w2.setCell ⟨w.heap.size + 1 + 1, 0, none⟩ a).setCell ⟨w.heap.size + 1 + 1, 1, none⟩ b).setCell ⟨w.heap.size + 1 + 1, 2, none⟩ d).cell? ⟨w.heap.size, 0, none⟩ = some (.int .i64 lim) ∧ (((w2.setCell ⟨w.heap.size + 1 + 1, 0, none⟩ a).setCell ⟨w.heap.size + 1 + 1, 1, none⟩ b).setCell ⟨w.heap.size + 1 + 1, 2, none⟩ d).cell? ⟨w.heap.size, 1, none⟩ = some (.int .i64 num) ∧ (((w2.setCell ⟨w.heap.size + 1 + 1, 0, none⟩ a).setCell ⟨w.heap.size + 1 + 1, 1, none⟩ b).setCell ⟨w.heap.size + 1 + 1, 2, none⟩ d).cell? ⟨w.heap.size + 1, 0, none⟩ = some (.int .i64 x.kind) ∧ (((w2.setCell ⟨w.heap.size + 1 + 1, 0, none⟩ a).setCell ⟨w.heap.size + 1 + 1, 1, none⟩ b).setCell ⟨w.heap.size + 1 + 1, 2, none⟩ d).cell? ⟨w.heap.size + 1, 1, none⟩ = some (.int .i64 x.num) ∧ (((w2.setCell ⟨w.heap.size + 1 + 1, 0, none⟩ a).setCell ⟨w.heap.size + 1 + 1, 1, none⟩ b).setCell ⟨w.heap.size + 1 + 1, 2, none⟩ d).cell? ⟨w.heap.size + 1, 2, none⟩ = some (.string x.table) ∧ (((w2.setCell ⟨w.heap.size + 1 + 1, 0, none⟩ a).setCell ⟨w.heap.size + 1 + 1, 1, none⟩ b).setCell ⟨w.heap.size + 1 + 1, 2, none⟩ d).cell? ⟨w.heap.size + 1, 3, none⟩ = some (.slice A3 x.before.length c3) ∧ (((w2.setCell ⟨w.heap.size + 1 + 1, 0, none⟩ a).setCell ⟨w.heap.size + 1 + 1, 1, none⟩ b).setCell ⟨w.heap.size + 1 + 1, 2, none⟩ d).cell? ⟨w.heap.size + 1, 4, none⟩ = some (.slice A4 x.after.length c4) ∧ (((w2.setCell ⟨w.heap.size + 1 + 1, 0, none⟩ a).setCell ⟨w.heap.size + 1 + 1, 1, none⟩ b).setCell ⟨w.heap.size + 1 + 1, 2, none⟩ d).cell? ⟨w.heap.size + 1, 5, none⟩ = some (.int .i64 x.change.kind) ∧ (((w2.setCell ⟨w.heap.size + 1 + 1, 0, none⟩ a).setCell ⟨w.heap.size + 1 + 1, 1, none⟩ b).setCell ⟨w.heap.size + 1 + 1, 2, none⟩ d).cell? ⟨w.heap.size + 1, 6, none⟩ = some (.string x.change.table) ∧ (((w2.setCell ⟨w.heap.size + 1 + 1, 0, none⟩ a).setCell ⟨w.heap.size + 1 + 1, 1, none⟩ b).setCell ⟨w.heap.size + 1 + 1, 2, none⟩ d).cell? ⟨w.heap.size + 1, 7, none⟩ = some (.slice A7 x.change.schema.cols.length c7) ∧ (((w2.setCell ⟨w.heap.size + 1 + 1, 0, none⟩ a).setCell ⟨w.heap.size + 1 + 1, 1, none⟩ b).setCell ⟨w.heap.size + 1 + 1, 2, none⟩ d).cell? ⟨w.heap.size + 1, 8, none⟩ = some (.int .i64 x.change.schema.keys) ∧ (((w2.setCell ⟨w.heap.size + 1 + 1, 0, none⟩ a).setCell ⟨w.heap.size + 1 + 1, 1, none⟩ b).setCell ⟨w.heap.size + 1 + 1, 2, none⟩ d).cell? ⟨w.heap.size + 1, 9, none⟩ = some (.string x.change.column.name) ∧ (((w2.setCell ⟨w.heap.size + 1 + 1, 0, none⟩ a).setCell ⟨w.heap.size + 1 + 1, 1, none⟩ b).setCell ⟨w.heap.size + 1 + 1, 2, none⟩ d).cell? ⟨w.heap.size + 1, 10, none⟩ = some (.int .i64 x.change.column.kind) ∧ (((w2.setCell ⟨w.heap.size + 1 + 1, 0, none⟩ a).setCell ⟨w.heap.size + 1 + 1, 1, none⟩ b).setCell ⟨w.heap.size + 1 + 1, 2, none⟩ d).cell? ⟨w.heap.size + 1, 11, none⟩ = some (.bool x.change.column.none) := fun a b d => (by have y0 : (((w2.setCell ⟨w.heap.size + 1 + 1, 0, none⟩ a).setCell ⟨w.heap.size + 1 + 1, 1, none⟩ b).setCell ⟨w.heap.size + 1 + 1, 2, none⟩ d).heap[w.heap.size]? = _ := (by rw [heap_setCell_other _ _ _ _ (by simp only; omega), heap_setCell_other _ _ _ _ (by simp only; omega), heap_setCell_other _ _ _ _ (by simp only; omega)] : (((w2.setCell ⟨w.heap.size + 1 + 1, 0, none⟩ a).setCell ⟨w.heap.size + 1 + 1, 1, none⟩ b).setCell ⟨w.heap.size + 1 + 1, 2, none⟩ d).heap[w.heap.size]? = w2.heap[w.heap.size]?).trans zz; have y1 : (((w2.setCell ⟨w.heap.size + 1 + 1, 0, none⟩ a).setCell ⟨w.heap.size + 1 + 1, 1, none⟩ b).setCell ⟨w.heap.size + 1 + 1, 2, none⟩ d).heap[w.heap.size + 1]? = _ := (by rw [heap_setCell_other _ _ _ _ (by simp only; omega), heap_setCell_other _ _ _ _ (by simp only; omega), heap_setCell_other _ _ _ _ (by simp only; omega)] : (((w2.setCell ⟨w.heap.size + 1 + 1, 0, none⟩ a).setCell ⟨w.heap.size + 1 + 1, 1, none⟩ b).setCell ⟨w.heap.size + 1 + 1, 2, none⟩ d).heap[w.heap.size + 1]? = w2.heap[w.heap.size + 1]?).trans zy; exact ⟨cell_of_row _ _ 0 _ _ _ y0, cell_of_row _ _ 1 _ _ _ y0, cell_of_row _ _ 0 _ _ _ y1, cell_of_row _ _ 1 _ _ _ y1, cell_of_row _ _ 2 _ _ _ y1, cell_of_row _ _ 3 _ _ _ y1, cell_of_row _ _ 4 _ _ _ y1, cell_of_row _ _ 5 _ _ _ y1, cell_of_row _ _ 6 _ _ _ y1, cell_of_row _ _ 7 _ _ _ y1, cell_of_row _ _ 8 _ _ _ y1, cell_of_row _ _ 9 _ _ _ y1, cell_of_row _ _ 10 _ _ _ y1, cell_of_row _ _ 11 _ _ _ y1⟩); have HS3 := Aside0.mk h3; clear h3; clear z hN2 hb2 hg2 hat2 zz zy))
    go_wp2
    have g0 := heap_setCell_same _ (w.heap.size + 1 + 1) 2 _ _ (.slice A10 (xs.length + 1) c10) (heap_setCell_same _ (w.heap.size + 1 + 1) 1 _ _ (.int .i64 num) (heap_setCell_same _ (w.heap.size + 1 + 1) 0 _ _ (.int .i64 lim) HZ.out))
    have g1 := cell_of_row _ _ 0 _ _ _ g0
    have g2 := cell_of_row _ _ 1 _ _ _ g0
    have g3 := cell_of_row _ _ 2 _ _ _ g0
    have hfin := Kd.N_lower (Kd.N_drop (Kd.N_far (Kd.N_far (Kd.N_far HN2.out (p := ⟨w.heap.size + 1 + 1, 0, none⟩) (fun k hk => hk.2) (.int .i64 lim)) (p := ⟨w.heap.size + 1 + 1, 1, none⟩) (fun k hk => hk.2) (.int .i64 num)) (p := ⟨w.heap.size + 1 + 1, 2, none⟩) (fun k hk => hk.2) (.slice A10 (xs.length + 1) c10))) hbase
    have hbel := ((HB2.out.setCell (p := ⟨w.heap.size + 1 + 1, 0, none⟩) (by simp only; omega) (.int .i64 lim)).setCell (p := ⟨w.heap.size + 1 + 1, 1, none⟩) (by simp only; omega) (.int .i64 num)).setCell (p := ⟨w.heap.size + 1 + 1, 2, none⟩) (by simp only; omega) (.slice A10 (xs.length + 1) c10)
    generalize ((w2.setCell ⟨w.heap.size + 1 + 1, 0, none⟩ (.int .i64 lim)).setCell ⟨w.heap.size + 1 + 1, 1, none⟩ (.int .i64 num)).setCell ⟨w.heap.size + 1 + 1, 2, none⟩ (.slice A10 (xs.length + 1) c10) = W3 at *
    clear g0
    exact bodyPost_ret (v := .tuple #[.agg #[.int .i64 lim, .int .i64 num, .slice A10 (xs.length + 1) c10], .slice none 0 0, .bool false, .int .i64 0]) (by simp [results, Try.results29, go_sem, g1, g2, g3]) rfl (RefTell.mk _ _ hfin (Kd.N_nil _ _ _ _ _) hbel)

def closedOr (num : Int) (xs : List Ev) : Prop := (num = -1 ∧ xs = []) ∨ 0 ≤ num
theorem refput_calls (ok : Nat → Prop) (base : Nat) (lim num : Int) (xs : List Ev) (x : Ev) (A : Option Addr) (c : Nat) {A3 A4 A7 : Option Addr} {c3 c4 c7 : Nat} (w : World) (hN : Kd.N kEv 49 w base ok (.slice A xs.length c) xs) (hnum : closedOr num xs) (hlim : (xs.length : Int) ≤ lim) (hl : xs.length ≤ 1000000) (hbase : base ≤ w.heap.size) (hfr : ∀ k, w.heap.size ≤ k → ok k) (okx : Nat → Prop) (hX : Kd.FK kEv w okx x [.int .i64 x.kind, .int .i64 x.num, .string x.table, .slice A3 x.before.length c3, .slice A4 x.after.length c4, .int .i64 x.change.kind, .string x.change.table, .slice A7 x.change.schema.cols.length c7, .int .i64 x.change.schema.keys, .string x.change.column.name, .int .i64 x.change.column.kind, .bool x.change.column.none] ) (hox : ∀ k, okx k → ok k) :
    Calls Try.prog 29 #[.agg #[.int .i64 lim, .int .i64 num, .slice A xs.length c], .agg #[.int .i64 x.kind, .int .i64 x.num, .string x.table, .slice A3 x.before.length c3, .slice A4 x.after.length c4, .int .i64 x.change.kind, .string x.change.table, .slice A7 x.change.schema.cols.length c7, .int .i64 x.change.schema.keys, .string x.change.column.name, .int .i64 x.change.column.kind, .bool x.change.column.none]] w (RefTell ok base w lim (putR lim num xs x)) := by
  unfold putR
  by_cases h2 : x.kind = 2
  · simp only [if_pos h2]
    rcases hnum with ⟨rfl, rfl⟩ | h0
    · simp only [if_true]
      exact ref_begin ok base lim (-1) [] x A c w hN h2
    · simp only [if_neg (show ¬ num = -1 by omega)]
      exact ref_begin_open ok base lim num xs x A c w hN h2 h0
  · simp only [if_neg h2]
    by_cases h3 : x.kind = 3 ∨ x.kind = 4 ∨ x.kind = 5 ∨ x.kind = 6
    · simp only [if_pos h3]
      rcases hnum with ⟨rfl, rfl⟩ | h0
      · simp only [if_true]
        exact ref_hold_closed ok base lim (-1) [] x A c w hN h3
      · simp only [if_neg (show ¬ num = -1 by omega)]
        by_cases hf : (xs.length : Int) = lim
        · simp only [if_pos hf]
          exact ref_hold_full ok base lim num xs x A c w hN h3 h0 (by omega)
        · simp only [if_neg hf]
          exact ref_hold ok base lim num xs x A c w hN h3 h0 (by omega) hl hbase hfr okx hX hox
    · simp only [if_neg h3]
      by_cases h7 : x.kind = 7 ∨ x.kind = 8
      · simp only [if_pos h7]
        rcases hnum with ⟨rfl, rfl⟩ | h0
        · simp only [true_or, if_true]
          exact ref_end_closed ok base lim (-1) [] x A c w hN h7
        · by_cases hb : x.num = num
          · have hb' : (x.num != num) = false := by simp [hb]
            rw [if_neg (by omega)]
            rcases h7 with h7 | h7
            · simp only [if_neg (show ¬ x.kind = 8 by omega)]
              exact ref_end_told ok base lim num xs x A c w hN h7 h0 hb'
            · simp only [if_pos h7]
              exact ref_end_abort ok base lim num xs x A c w hN h7 h0 hb'
          · have hb' : (x.num != num) = true := bne_iff_ne.2 hb
            rw [if_pos (.inr hb)]
            exact ref_end_bad ok base lim num xs x A c w hN h7 h0 hb'
      · simp only [if_neg h7]
        exact ref_other ok base lim num xs x A c w hN (fun j hj hj' he => by omega)
theorem putR_closed (lim num : Int) (xs : List Ev) (x : Ev) (h : closedOr num xs) (hx : 0 ≤ x.num) : closedOr (putR lim num xs x).num (putR lim num xs x).xs := by
  unfold putR closedOr at *
  repeat' split
  all_goals simp_all
  all_goals omega
theorem putR_lim (lim num : Int) (xs : List Ev) (x : Ev) (h : (xs.length : Int) ≤ lim) (h1 : 1 ≤ lim) : ((putR lim num xs x).xs.length : Int) ≤ lim := by
  unfold putR
  repeat' split
  all_goals simp_all
  all_goals omega
end Go.Proofs.Ytjkgafijifkfcaa
