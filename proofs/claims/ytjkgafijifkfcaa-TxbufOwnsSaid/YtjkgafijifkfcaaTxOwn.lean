/- txbuf.own: an event's own copy. Conditions: the event reads so; the bytes of its rows are below 2^47. -/
import Derived.Test.YtjkgafijifkfcaaApiClone
import Derived.Deep.RegionWith
import Derived.Laws.Rows
import Derived.Laws.CopyOwn
import Derived.Outline
namespace Go.Proofs.Ytjkgafijifkfcaa
open Go.RowKit Go.Proofs.YtjkgafijifkfcaaW.PrintWords
set_option linter.unusedVariables false
set_option linter.unusedSimpArgs false

theorem bcell {W w1 : World} (hb : Below W.heap.size W w1) : (∀ b o, b < W.heap.size → w1.cell? ⟨b, o, none⟩ = W.cell? ⟨b, o, none⟩) ∧ (∀ b o, b < W.heap.size → w1.frozen? ⟨b, o, none⟩ = W.frozen? ⟨b, o, none⟩) :=
  ⟨fun b o h => hb.cell (p := ⟨b, o, none⟩) h, fun b o h => hb.frozen (p := ⟨b, o, none⟩) h⟩
/-- what an event's rows may weigh -/
def EvOk (x : Ev) : Prop := x.before.length * 32 ≤ 140737488355328 ∧ x.after.length * 32 ≤ 140737488355328 ∧ x.change.schema.cols.length * 32 ≤ 140737488355328
def OwnedEv (w : World) (x : Ev) (e : Ending) (w' : World) : Prop := ∃ cs, e = .returned (.agg cs.toArray) ∧ kEv.M w' w.heap.size (fun _ => True) x cs ∧ Below w.heap.size w w'

/-- the event's block, with the rows that it has by now; the block of the answer, not yet written -/
def evCells (x : Ev) (v3 v4 v7 : Value) : Array Value := #[.int .i64 x.kind, .int .i64 x.num, .string x.table, v3, v4, .int .i64 x.change.kind, .string x.change.table, v7, .int .i64 x.change.schema.keys, .string x.change.column.name, .int .i64 x.change.column.kind, .bool x.change.column.none]
def evZero : Array Value := #[.int .i64 0, .int .i64 0, .string ⟨#[]⟩, .slice none 0 0, .slice none 0 0, .int .i64 0, .string ⟨#[]⟩, .slice none 0 0, .int .i64 0, .string ⟨#[]⟩, .int .i64 0, .bool false]
theorem evCells_one (x : Ev) (A B C : Option Addr) (a b c d e f : Nat) : (evCells x (.slice A a b) (.slice B c d) (.slice C e f)).all (·.oneCell') = true := by
  simp [evCells, Value.oneCell']
theorem evCells_size (x : Ev) (v3 v4 v7 : Value) : evZero.size = (evCells x v3 v4 v7).size := rfl
structure MidOwn (w W : World) (x : Ev) (v3 v4 v7 : Value) : Prop where
  blk : W.heap[w.heap.size]? = some (.cells (evCells x v3 v4 v7) 49 (0, 0))
  zero : W.heap[w.heap.size + 1]? = some (.cells evZero 49 (0, 0))
  below : Below w.heap.size w W
  size : w.heap.size + 2 ≤ W.heap.size
theorem MidOwn.step {w W W' : World} {x : Ev} {v3 v4 v7 : Value} (h : MidOwn w W x v3 v4 v7) (hb : Below W.heap.size W W') : MidOwn w W' x v3 v4 v7 :=
  ⟨(hb.block _ (by have := h.size; omega)).trans h.blk, (hb.block _ (by have := h.size; omega)).trans h.zero, h.below.trans (hb.mono h.below.size), Nat.le_trans h.size hb.size⟩
theorem MidOwn.set {w W : World} {x : Ev} {v3 v4 v7 : Value} (h : MidOwn w W x v3 v4 v7) (i : Nat) (v : Value) {u3 u4 u7 : Value} (hc : (evCells x v3 v4 v7).setIfInBounds i v = evCells x u3 u4 u7) : MidOwn w (W.setCell ⟨w.heap.size, i, none⟩ v) x u3 u4 u7 :=
  ⟨by rw [heap_setCell_same W _ i _ _ v h.blk, hc], by rw [heap_setCell_other _ _ _ _ (by simp)]; exact h.zero, h.below.setCell (Nat.le_refl _) _, by simp [World.setCell]; exact h.size⟩
theorem MidOwn.cell {w W : World} {x : Ev} {v3 v4 v7 : Value} (h : MidOwn w W x v3 v4 v7) (i : Nat) {v : Value} (hc : (evCells x v3 v4 v7)[i]? = some v) : W.cell? ⟨w.heap.size, i, none⟩ = some v := by
  rw [cell_of_row W _ i _ _ _ h.blk, hc]
theorem MidOwn.free {w W : World} {x : Ev} {v3 v4 v7 : Value} (h : MidOwn w W x v3 v4 v7) (i : Nat) : W.frozen? ⟨w.heap.size, i, none⟩ = false := frozen_of_row W _ i _ _ h.blk
/-- a row of the call's own that lies behind the two blocks -/
def RowUp {α : Type} (d : Kd α) (e : Nat) (w W : World) (v : Value) (l : List α) : Prop := d.R e W w.heap.size (fun k => w.heap.size + 2 ≤ k) v l
theorem RowUp.of {α : Type} {d : Kd α} {e : Nat} {w W0 W : World} {v : Value} {l : List α} (h : d.R e W W0.heap.size (fun _ => True) v l) (h0 : w.heap.size + 2 ≤ W0.heap.size) : RowUp d e w W v l :=
  Kd.R_mono (Kd.R_lower (Kd.R_bound h) (by omega)) (fun k hk => by have := hk.2.1; omega)
theorem RowUp.step {α : Type} {d : Kd α} {e : Nat} {w W W' : World} {v : Value} {l : List α} (h : RowUp d e w W v l) (hb : Below W.heap.size W W') : RowUp d e w W' v l := Kd.R_below h hb
theorem RowUp.set {α : Type} {d : Kd α} {e : Nat} {w W : World} {v : Value} {l : List α} (h : RowUp d e w W v l) (i : Nat) (u : Value) : RowUp d e w (W.setCell ⟨w.heap.size, i, none⟩ u) v l := Kd.R_far (p := ⟨w.heap.size, i, none⟩) h (fun k hk => by simp only; omega) u

set_option maxRecDepth 100000 in
set_option maxHeartbeats 4000000 in
theorem own_calls (x : Ev) (cs : List Value) (w : World) (hK : kEv.K w x cs) (hx : EvOk x) :
    Calls Try.prog 48 #[.agg cs.toArray] w (OwnedEv w x) := by
  obtain ⟨A3, c3, A4, c4, A7, c7, rfl, l3, g3, l4, g4, l7, g7⟩ := kEv_open hK
  have H3 := Aside0.mk g3
  have H4 := Aside0.mk g4
  have H7 := Aside0.mk g7
  have HX := Aside0.mk hx
  clear hK g3 g4 g7 hx
  obtain ⟨n3, hn3⟩ : ∃ n, n = x.before.length := ⟨_, rfl⟩
  obtain ⟨n4, hn4⟩ : ∃ n, n = x.after.length := ⟨_, rfl⟩
  obtain ⟨n7, hn7⟩ : ∃ n, n = x.change.schema.cols.length := ⟨_, rfl⟩
  rw [← hn3] at H3 l3 ⊢
  rw [← hn4] at H4 l4 ⊢
  rw [← hn7] at H7 l7 ⊢
  have HN := Aside0.mk (And.intro hn3 (And.intro hn4 hn7))
  clear hn3 hn4 hn7
  go_enter Try.func48, Try.ntmps48
  go_wp2
  have hM : MidOwn w ((w.alloc (.cells #[.int .i64 x.kind, .int .i64 x.num, .string x.table, .slice A3 n3 c3, .slice A4 n4 c4, .int .i64 x.change.kind, .string x.change.table, .slice A7 n7 c7, .int .i64 x.change.schema.keys, .string x.change.column.name, .int .i64 x.change.column.kind, .bool x.change.column.none] 49)).alloc (.cells #[.int .i64 0, .int .i64 0, .string ⟨#[]⟩, .slice none 0 0, .slice none 0 0, .int .i64 0, .string ⟨#[]⟩, .slice none 0 0, .int .i64 0, .string ⟨#[]⟩, .int .i64 0, .bool false] 49)) x (.slice A3 n3 c3) (.slice A4 n4 c4) (.slice A7 n7 c7) :=
    ⟨heap_alloc2_old _ _ _, heap_alloc2_new _ _ _, below_alloc (below_alloc (Below.refl _ _) _) _, by simp⟩
  generalize (w.alloc (.cells #[.int .i64 x.kind, .int .i64 x.num, .string x.table, .slice A3 n3 c3, .slice A4 n4 c4, .int .i64 x.change.kind, .string x.change.table, .slice A7 n7 c7, .int .i64 x.change.schema.keys, .string x.change.column.name, .int .i64 x.change.column.kind, .bool x.change.column.none] 49)).alloc (.cells #[.int .i64 0, .int .i64 0, .string ⟨#[]⟩, .slice none 0 0, .slice none 0 0, .int .i64 0, .string ⟨#[]⟩, .slice none 0 0, .int .i64 0, .string ⟨#[]⟩, .int .i64 0, .bool false] 49) = W0 at *
  have HM := Aside0.mk hM
  have e3 : W0.cell? ⟨w.heap.size, 3, none⟩ = some (.slice A3 n3 c3) := hM.cell 3 rfl
  have e4 : W0.cell? ⟨w.heap.size, 4, none⟩ = some (.slice A4 n4 c4) := hM.cell 4 rfl
  clear hM
  have Q1 : Aside0 (Calls Try.prog 50 #[.slice A3 n3 c3] W0.drew (FreshOf kVal 36 W0.drew x.before)) := ⟨cloneVal_calls A3 n3 c3 x.before W0.drew (Kd.C_below H3.out (HM.out.below.drew)) (by rw [HN.out.1]; exact HX.out.1)⟩
  have Q2 : Aside0 (∀ W, Below W0.heap.size W0 W → Calls Try.prog 50 #[.slice A4 n4 c4] W (FreshOf kVal 36 W x.after)) := ⟨fun W h => cloneVal_calls A4 n4 c4 x.after W (Kd.C_below H4.out (HM.out.below.trans (h.mono HM.out.below.size))) (by rw [HN.out.2.1]; exact HX.out.2.1)⟩
  go_region_with (first
    | (go_at_call 50; (with_reducible refine Q1.out.mono ?_); rintro e w1 ⟨v3, rfl, ho3, hb3⟩; obtain ⟨A5, c5, rfl⟩ := Kd.R_slice ho3; have HM1 := Aside0.mk (HM.out.step (W' := w1) ((Below.drew (Below.refl _ _)).trans hb3)); have HB1 := Aside0.mk ((Below.drew (Below.refl W0.heap.size W0)).trans hb3); have HR3 := Aside0.mk (RowUp.of (w := w) ho3 HM.out.size); have e4' : w1.cell? ⟨w.heap.size, 4, none⟩ = some (.slice A4 n4 c4) := HM1.out.cell 4 rfl; clear ho3 hb3)
    | (go_at_call 50; (with_reducible refine (Q2.out w1 HB1.out).mono ?_); rintro e w2 ⟨v4, rfl, ho4, hb4⟩; obtain ⟨A6, c6, rfl⟩ := Kd.R_slice ho4; have HM2 := Aside0.mk (HM1.out.step hb4); have HR3' := Aside0.mk (HR3.out.step hb4); have HR4 := Aside0.mk (RowUp.of (w := w) ho4 HM1.out.size); have f3 : w2.cell? ⟨w.heap.size, 3, none⟩ = some (.slice A3 n3 c3) := HM2.out.cell 3 rfl; have f4 : w2.cell? ⟨w.heap.size, 4, none⟩ = some (.slice A4 n4 c4) := HM2.out.cell 4 rfl; have g3 := HM2.out.free 3; have g4 := HM2.out.free 4; clear ho4 hb4))
  all_goals
    have hM3 : MidOwn w ((w2.setCell ⟨w.heap.size, 3, none⟩ (.slice A5 x.before.length c5)).setCell ⟨w.heap.size, 4, none⟩ (.slice A6 x.after.length c6)) x (.slice A5 x.before.length c5) (.slice A6 x.after.length c6) (.slice A7 n7 c7) :=
      (HM2.out.set 3 (.slice A5 x.before.length c5) (u3 := .slice A5 x.before.length c5) (u4 := .slice A4 n4 c4) (u7 := .slice A7 n7 c7) rfl).set 4 (.slice A6 x.after.length c6) rfl
    have hR3 := (HR3'.out.set 3 (.slice A5 x.before.length c5)).set 4 (.slice A6 x.after.length c6)
    have hR4 := (HR4.out.set 3 (.slice A5 x.before.length c5)).set 4 (.slice A6 x.after.length c6)
    generalize (w2.setCell ⟨w.heap.size, 3, none⟩ (.slice A5 x.before.length c5)).setCell ⟨w.heap.size, 4, none⟩ (.slice A6 x.after.length c6) = W3 at *
    have HM3 := Aside0.mk hM3
    have HR3b := Aside0.mk hR3
    have HR4b := Aside0.mk hR4
    have e7 : W3.cell? ⟨w.heap.size, 7, none⟩ = some (.slice A7 n7 c7) := hM3.cell 7 rfl
    have Q3 : Aside0 (Calls Try.prog 51 #[.slice A7 n7 c7] W3 (FreshOf kCol 45 W3 x.change.schema.cols)) := ⟨cloneCol_calls A7 n7 c7 x.change.schema.cols W3 (Kd.C_below H7.out hM3.below) (by rw [HN.out.2.2]; exact HX.out.2.2)⟩
    clear hM3 hR3 hR4 e3 e4 e4' f3 f4 g3 g4 HM1 HM2 HR3 HR4 HR3' Q1 Q2 HB1
    go_wp2_with (first
      | (go_at_call 51; (with_reducible refine Q3.out.mono ?_); rintro e w4 ⟨v7, rfl, ho7, hb7⟩; obtain ⟨A8, c8, rfl⟩ := Kd.R_slice ho7; have HM4 := Aside0.mk (HM3.out.step hb7); have f7 : w4.cell? ⟨w.heap.size, 7, none⟩ = some (.slice A7 n7 c7) := HM4.out.cell 7 rfl; have g7 := HM4.out.free 7; have HR7 := Aside0.mk ((RowUp.of (w := w) ho7 HM3.out.size).set 7 (.slice A8 x.change.schema.cols.length c8)); have HR3c := Aside0.mk ((HR3b.out.step hb7).set 7 (.slice A8 x.change.schema.cols.length c8)); have HR4c := Aside0.mk ((HR4b.out.step hb7).set 7 (.slice A8 x.change.schema.cols.length c8)); have HM5 := Aside0.mk (HM4.out.set 7 (.slice A8 x.change.schema.cols.length c8) (u3 := .slice A5 x.before.length c5) (u4 := .slice A6 x.after.length c6) (u7 := .slice A8 x.change.schema.cols.length c8) rfl); clear ho7 hb7)
      | (with_reducible refine wpList_load_row rfl 49 (.tmp 1) rfl w.heap.size rfl 49 (evCells x (.slice A5 x.before.length c5) (.slice A6 x.after.length c6) (.slice A8 x.change.schema.cols.length c8)) (0, 0) _ HM5.out.blk Try.underlying49 rfl (by kernel_rfl) ?_)
      | (with_reducible refine wpList_store_row rfl 49 (.tmp 2) (.tmp 19) rfl (w.heap.size + 1) (evCells x (.slice A5 x.before.length c5) (.slice A6 x.after.length c6) (.slice A8 x.change.schema.cols.length c8)) rfl rfl 49 evZero HM5.out.zero (by kernel_rfl) (evCells_size _ _ _ _) (evCells_one _ _ _ _ _ _ _ _ _ _) ?_))
    try simp only [Exit.inBlock, Exit.then]
    refine bodyPost_ret (v := .agg (evCells x (.slice A5 x.before.length c5) (.slice A6 x.after.length c6) (.slice A8 x.change.schema.cols.length c8))) (results_cell_row Try.results48 _ _ (w.heap.size + 1) 49 _ (0, 0) _ rfl (setRow_heap _ _ _ _ _ _ HM5.out.zero) Try.underlying49 rfl (by kernel_rfl)) rfl ?_
    have far : ∀ k, w.heap.size + 2 ≤ k → k < (w4.setCell ⟨w.heap.size, 7, none⟩ (.slice A8 x.change.schema.cols.length c8)).heap.size → ((w4.setCell ⟨w.heap.size, 7, none⟩ (.slice A8 x.change.schema.cols.length c8)).setRow (w.heap.size + 1) (evCells x (.slice A5 x.before.length c5) (.slice A6 x.after.length c6) (.slice A8 x.change.schema.cols.length c8))).heap[k]? = (w4.setCell ⟨w.heap.size, 7, none⟩ (.slice A8 x.change.schema.cols.length c8)).heap[k]? := fun k hk _ => setRow_other _ _ _ _ (by omega)
    exact ⟨_, rfl, kEv_mkM _ _ _ x (Kd.R_mono (Kd.R_step HR3c.out far) (fun _ _ => trivial)) (Kd.R_mono (Kd.R_step HR4c.out far) (fun _ _ => trivial)) (Kd.R_mono (Kd.R_step HR7.out far) (fun _ _ => trivial)), below_setRow HM5.out.below (by omega) _⟩
end Go.Proofs.Ytjkgafijifkfcaa
