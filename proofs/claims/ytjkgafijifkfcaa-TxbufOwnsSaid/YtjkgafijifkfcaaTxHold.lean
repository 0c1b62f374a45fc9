/- What hold does to a buffer. Conditions: the buffer stands where the pointer points; the event reads so; at most a million events are held. -/
import Derived.Test.YtjkgafijifkfcaaTxMeth
import Derived.Deep.RegionLaw
namespace Go.Proofs.Ytjkgafijifkfcaa
open Go.RowKit Go.Proofs.YtjkgafijifkfcaaW.PrintWords
set_option linter.unusedVariables false
set_option linter.unusedSimpArgs false

theorem infoEv : (Try.prog.info? 49).map (fun i => (i.zero, i.size, i.bytes)) = some (some (.agg evZero), kEv.sz, 168) := by kernel_rfl
theorem snoc_len (xs : List Ev) (x : Ev) : (xs ++ [x]).length = xs.length + 1 := by simp
set_option maxRecDepth 100000 in
set_option maxHeartbeats 2000000 in
theorem hold_closed (O : Nat → Prop) (g : Nat) (lim : Int) (xs : List Ev) (x : Ev) (cs : List Value) (w : World) (hb : BufO O w g lim (-1) xs) (hB : ∀ k, w.heap.size ≤ k → O k) (hK : kEv.K w x cs) :
    Calls Try.prog 42 #[.pointer (some ⟨g, 0, none⟩), .agg cs.toArray] w (PutTellO O g w lim (-1) xs [] false 14) := by
  obtain ⟨A3, c3, A4, c4, A7, c7, rfl, l3, g3, l4, g4, l7, g7⟩ := kEv_open hK
  obtain ⟨A, c, h1, h2⟩ := hb
  have HBlk := Aside0.mk h1
  have HBuf := Aside0.mk (show BufO O w g lim (-1) xs from ⟨A, c, h1, h2⟩)
  have hgl := h1.lt
  clear hK g3 g4 g7 h1 h2
  have q := fun o => (HBlk.out.below (below_alloc (Below.refl _ _) o)).c1
  go_enter Try.func42, Try.ntmps42
  go_wp2_with (go_at_call 30; (with_reducible refine (open_no g _ (q _)).mono ?_); rintro e w1 ⟨rfl, rfl⟩)
  go_ret3
  exact PutTellO.mk _ (EvRowO.nil _ _ _) (HBuf.out.below (below_alloc (Below.refl _ _) _)) (FrameO.of (below_alloc (Below.refl _ _) _))

set_option maxRecDepth 100000 in
set_option maxHeartbeats 2000000 in
theorem hold_full (O : Nat → Prop) (g : Nat) (lim num : Int) (xs : List Ev) (x : Ev) (cs : List Value) (w : World) (hb : BufO O w g lim num xs) (hB : ∀ k, w.heap.size ≤ k → O k) (hK : kEv.K w x cs) (hn : ¬ num = -1) (hf : (xs.length : Int) = lim) :
    Calls Try.prog 42 #[.pointer (some ⟨g, 0, none⟩), .agg cs.toArray] w (PutTellO O g w lim num xs [] false 13) := by
  obtain ⟨A3, c3, A4, c4, A7, c7, rfl, l3, g3, l4, g4, l7, g7⟩ := kEv_open hK
  obtain ⟨A, c, h1, h2⟩ := hb
  have HBlk := Aside0.mk h1
  have HBuf := Aside0.mk (show BufO O w g lim num xs from ⟨A, c, h1, h2⟩)
  have hgl := h1.lt
  have e1 : (num != -1) = true := bne_iff_ne.2 hn
  have e2 : ((xs.length : Int) == lim) = true := beq_iff_eq.2 hf
  clear hK g3 g4 g7 h1 h2 hn hf
  have q := fun o => (HBlk.out.below (below_alloc (Below.refl _ _) o)).c1
  have q0 := fun o => (HBlk.out.below (below_alloc (Below.refl _ _) o)).c0
  have q2 := fun o => (HBlk.out.below (below_alloc (Below.refl _ _) o)).c2
  go_enter Try.func42, Try.ntmps42
  go_wp2_with (go_at_call 30; (with_reducible refine (open_yes g num _ e1 (q _)).mono ?_); rintro e w1 ⟨rfl, rfl⟩)
  go_quiet (fail)
  go_wp2
  go_ret3
  exact PutTellO.mk _ (EvRowO.nil _ _ _) (HBuf.out.below (pw_below_drewN (below_alloc (Below.refl _ _) _) _)) (FrameO.of (pw_below_drewN (below_alloc (Below.refl _ _) _) _))

set_option maxRecDepth 100000 in
set_option maxHeartbeats 4000000 in
theorem hold_one (O : Nat → Prop) (g : Nat) (lim num : Int) (xs : List Ev) (x : Ev) (cs : List Value) (w : World) (hb : BufO O w g lim num xs) (hB : ∀ k, w.heap.size ≤ k → O k) (hK : kEv.K w x cs) (hx : EvOk x) (hn : ¬ num = -1) (hf : ¬ (xs.length : Int) = lim) (hl : xs.length ≤ 1000000) :
    Calls Try.prog 42 #[.pointer (some ⟨g, 0, none⟩), .agg cs.toArray] w (PutTellO O g w lim num (xs ++ [x]) [] false 0) := by
  have HOwn := Aside0.mk (fun W (h : Below w.heap.size w W) => own_calls x cs W (kEv.K_below h hK) hx)
  obtain ⟨A3, c3, A4, c4, A7, c7, rfl, l3, g3, l4, g4, l7, g7⟩ := kEv_open hK
  obtain ⟨A, c, h1, h2⟩ := hb
  have HBlk := Aside0.mk h1
  have HRow := Aside0.mk h2
  have hgl := h1.lt
  have e1 : (num != -1) = true := bne_iff_ne.2 hn
  have e2 : ((xs.length : Int) == lim) = false := beq_eq_false_iff_ne.2 hf
  have HOB := Aside0.mk hB
  clear hK g3 g4 g7 h1 h2 hn hf hB
  have q := fun o => (HBlk.out.below (below_alloc (Below.refl _ _) o)).c1
  have q0 := fun o => (HBlk.out.below (below_alloc (Below.refl _ _) o)).c0
  have q2 := fun o => (HBlk.out.below (below_alloc (Below.refl _ _) o)).c2
  go_enter Try.func42, Try.ntmps42
  go_wp2_with (go_at_call 30; (with_reducible refine (open_yes g num _ e1 (q _)).mono ?_); rintro e w1 ⟨rfl, rfl⟩)
  go_quiet (fail)
  go_wp2
  have hW1 : Below w.heap.size w ((w.alloc (.cells #[.int .i64 x.kind, .int .i64 x.num, .string x.table, .slice A3 x.before.length c3, .slice A4 x.after.length c4, .int .i64 x.change.kind, .string x.change.table, .slice A7 x.change.schema.cols.length c7, .int .i64 x.change.schema.keys, .string x.change.column.name, .int .i64 x.change.column.kind, .bool x.change.column.none] 49)).drewN nq) := pw_below_drewN (below_alloc (Below.refl _ _) _) _
  have hbox : ((w.alloc (.cells #[.int .i64 x.kind, .int .i64 x.num, .string x.table, .slice A3 x.before.length c3, .slice A4 x.after.length c4, .int .i64 x.change.kind, .string x.change.table, .slice A7 x.change.schema.cols.length c7, .int .i64 x.change.schema.keys, .string x.change.column.name, .int .i64 x.change.column.kind, .bool x.change.column.none] 49)).drewN nq).heap[w.heap.size]? = some (.cells #[.int .i64 x.kind, .int .i64 x.num, .string x.table, .slice A3 x.before.length c3, .slice A4 x.after.length c4, .int .i64 x.change.kind, .string x.change.table, .slice A7 x.change.schema.cols.length c7, .int .i64 x.change.schema.keys, .string x.change.column.name, .int .i64 x.change.column.kind, .bool x.change.column.none] 49 (0, 0)) := heap_alloc_new _ _
  have hsz : w.heap.size + 1 ≤ ((w.alloc (.cells #[.int .i64 x.kind, .int .i64 x.num, .string x.table, .slice A3 x.before.length c3, .slice A4 x.after.length c4, .int .i64 x.change.kind, .string x.change.table, .slice A7 x.change.schema.cols.length c7, .int .i64 x.change.schema.keys, .string x.change.column.name, .int .i64 x.change.column.kind, .bool x.change.column.none] 49)).drewN nq).heap.size := by simp
  generalize (w.alloc (.cells #[.int .i64 x.kind, .int .i64 x.num, .string x.table, .slice A3 x.before.length c3, .slice A4 x.after.length c4, .int .i64 x.change.kind, .string x.change.table, .slice A7 x.change.schema.cols.length c7, .int .i64 x.change.schema.keys, .string x.change.column.name, .int .i64 x.change.column.kind, .bool x.change.column.none] 49)).drewN nq = W1 at *
  have b0 : W1.cell? ⟨w.heap.size, 0, none⟩ = some (.int .i64 x.kind) := cell_of_row W1 _ 0 _ _ _ hbox
  have b1 : W1.cell? ⟨w.heap.size, 1, none⟩ = some (.int .i64 x.num) := cell_of_row W1 _ 1 _ _ _ hbox
  have b2 : W1.cell? ⟨w.heap.size, 2, none⟩ = some (.string x.table) := cell_of_row W1 _ 2 _ _ _ hbox
  have b3 : W1.cell? ⟨w.heap.size, 3, none⟩ = some (.slice A3 x.before.length c3) := cell_of_row W1 _ 3 _ _ _ hbox
  have b4 : W1.cell? ⟨w.heap.size, 4, none⟩ = some (.slice A4 x.after.length c4) := cell_of_row W1 _ 4 _ _ _ hbox
  have b5 : W1.cell? ⟨w.heap.size, 5, none⟩ = some (.int .i64 x.change.kind) := cell_of_row W1 _ 5 _ _ _ hbox
  have b6 : W1.cell? ⟨w.heap.size, 6, none⟩ = some (.string x.change.table) := cell_of_row W1 _ 6 _ _ _ hbox
  have b7 : W1.cell? ⟨w.heap.size, 7, none⟩ = some (.slice A7 x.change.schema.cols.length c7) := cell_of_row W1 _ 7 _ _ _ hbox
  have b8 : W1.cell? ⟨w.heap.size, 8, none⟩ = some (.int .i64 x.change.schema.keys) := cell_of_row W1 _ 8 _ _ _ hbox
  have b9 : W1.cell? ⟨w.heap.size, 9, none⟩ = some (.string x.change.column.name) := cell_of_row W1 _ 9 _ _ _ hbox
  have b10 : W1.cell? ⟨w.heap.size, 10, none⟩ = some (.int .i64 x.change.column.kind) := cell_of_row W1 _ 10 _ _ _ hbox
  have b11 : W1.cell? ⟨w.heap.size, 11, none⟩ = some (.bool x.change.column.none) := cell_of_row W1 _ 11 _ _ _ hbox
  have k2 := (HBlk.out.below hW1).c2
  have HW1 := Aside0.mk hW1
  have HSZ := Aside0.mk hsz
  clear hW1 hbox hsz q q0 q2
  have HOwnLt := Aside0.mk (fun k (hk : (Value.slice A xs.length c).ownBlock = some k) => HRow.out.1 k hk)
  have HOwnLt2 := Aside0.mk (fun k (hk : (Value.slice A xs.length c).ownBlock = some k) => (by obtain ⟨_, ho⟩ := Kd.R_own HRow.out; exact own_lt ho k hk : k < w.heap.size))
  go_region_law (first
    | (go_simp; go_at_call 48; (with_reducible refine (HOwn.out W1.drew HW1.out.drew).mono ?_); rintro e w2 ⟨cs2, rfl, hM, hb2⟩; obtain ⟨v3, v4, v7, rfl, r3, r4, r7⟩ := kEv_openM hM; obtain ⟨B3, j3, rfl⟩ := Kd.R_slice r3; obtain ⟨B4, j4, rfl⟩ := Kd.R_slice r4; obtain ⟨B7, j7, rfl⟩ := Kd.R_slice r7; have HM2 := Aside0.mk hM; have HB2 := Aside0.mk (HW1.out.drew.trans (hb2.mono HW1.out.size)); have k2' := (HBlk.out.below HB2.out).c2; have k2o := (fun o => ((HBlk.out.below HB2.out).below (below_alloc (Below.refl _ _) o)).c2); clear hM hb2 r3 r4 r7)
    | (refine Kd.R_append_step kEv (w0 := w2) (W := w2) 0 (by rfl) (.tmp 26) (.tmp 29) 37 49 (.agg evZero) 168 rfl Try.underlying37 infoEv rfl (by decide) (by decide) _ xs x [.int .i64 x.kind, .int .i64 x.num, .string x.table, .slice B3 x.before.length j3, .slice B4 x.after.length j4, .int .i64 x.change.kind, .string x.change.table, .slice B7 x.change.schema.cols.length j7, .int .i64 x.change.schema.keys, .string x.change.column.name, .int .i64 x.change.column.kind, .bool x.change.column.none] (fun k => O k ∧ k ≠ g) (fun k => w.heap.size + 1 ≤ k) rfl rfl (kEv.M_lower (Nat.zero_le _) (kEv.M_mono (fun k hk => Nat.le_trans HSZ.out hk.2.1) (kEv.M_bound HM2.out))) (fun k hk => ⟨⟨HOB.out k (by omega), by omega⟩, fun he => by have := HOwnLt2.out k he.symm; omega⟩) (fun k hk => by have := HB2.out.size; exact ⟨HOB.out k (by omega), by omega⟩) (HRow.out.below HB2.out) ((Below.refl w2.heap.size w2).mono (Nat.zero_le _)) (Nat.zero_le _) (by omega) ?_; intro v1 w3 ho3 hb3 hg3 hat3; obtain ⟨A9, c9, rfl⟩ := Kd.R_slice ho3; rw [snoc_len] at ho3 ⊢; have HO3 := Aside0.mk ho3; have HG3 := Aside0.mk hg3; have HBlk3 : Aside0 (BufBlk w3 g lim num (.slice A xs.length c)) := ⟨(hg3.block g (by have := HB2.out.size; omega) (fun he => (HOwnLt.out g he.symm).2 rfl)).trans (HBlk.out.below HB2.out)⟩; have k3 := HBlk3.out.c2; have f3 := HBlk3.out.free 2; clear ho3 hb3 hg3 hat3))
  all_goals
    go_wp2
    go_ret3
    exact PutTellO.mk _ (EvRowO.nil _ _ _) ⟨A9, c9, by rw [snoc_len]; exact HBlk3.out.set2 _, by rw [snoc_len]; exact EvRowO.set HO3.out 2 _⟩ (((FrameO.of HB2.out).grown HG3.out (fun k hk => (HOwnLt.out k hk).1)).set 2 _)
end Go.Proofs.Ytjkgafijifkfcaa
