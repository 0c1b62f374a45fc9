/- The law TxbufPlays comes to true for every limit and row of events. Conditions: the events read so. -/
import Derived.Test.YtjkgafijifkfcaaTxClears
import Derived.Test.YtjkgafijifkfcaaRefHold
namespace Go.Proofs.Ytjkgafijifkfcaa
open Go.RowKit Go.Proofs.YtjkgafijifkfcaaW.PrintWords
set_option linter.unusedVariables false
set_option linter.unusedSimpArgs false
theorem heap_Val : Kd.Heap kVal := Kd.heap_iso _ (Kd.heap_pair (Kd.heap_int _) (Kd.heap_pair (Kd.heap_int _) Kd.heap_string))
theorem heap_Col : Kd.Heap kCol := Kd.heap_iso _ (Kd.heap_pair Kd.heap_string (Kd.heap_pair (Kd.heap_int _) Kd.heap_bool))
theorem fk_right {w W : World} (x : Ev) {A3 A4 A7 : Option Addr} {c3 c4 c7 : Nat} (hb : Below w.heap.size w W) (l3 : x.before.length ≤ c3) (g3 : kVal.C w A3 x.before.length x.before) (l4 : x.after.length ≤ c4) (g4 : kVal.C w A4 x.after.length x.after) (l7 : x.change.schema.cols.length ≤ c7) (g7 : kCol.C w A7 x.change.schema.cols.length x.change.schema.cols) :
    Kd.FK kEv W (fun k => k < w.heap.size) (rightE x) [.int .i64 x.kind, .int .i64 (signed x.num), .string x.table, .slice A3 x.before.length c3, .slice A4 x.after.length c4, .int .i64 x.change.kind, .string x.change.table, .slice A7 x.change.schema.cols.length c7, .int .i64 x.change.schema.keys, .string x.change.column.name, .int .i64 x.change.column.kind, .bool x.change.column.none] := fun W' hW => by
  have hh : ∀ k, k < w.heap.size → W'.heap[k]? = w.heap[k]? := fun k hk => (hW k hk (by have := hb.size; omega)).trans (hb.block k hk)
  exact kEv_mk W' (rightE x) l3 (heap_Val.C hh g3) l4 (heap_Val.C hh g4) l7 (heap_Col.C hh g7)
theorem refnew_calls (lim : Int) (w : World) : Calls Try.prog 26 #[.int .i64 lim] w fun e w' => e = .returned (.agg #[.int .i64 (max lim 1), .int .i64 (-1), .slice none 0 0]) ∧ Below w.heap.size w w' := by
  by_cases h : lim < 1
  · have hm : max lim 1 = 1 := by omega
    have H := Aside0.mk hm
    clear hm
    go_enter Try.func26, Try.ntmps26
    go_wp2
    exact bodyPost_ret (v := .agg #[.int .i64 1, .int .i64 (-1), .slice none 0 0]) (by simp [results, Try.results26, go_sem]) rfl ⟨by rw [H.out], below_alloc (Below.refl _ _) _⟩
  · have hm : max lim 1 = lim := by omega
    have H := Aside0.mk hm
    clear hm
    go_enter Try.func26, Try.ntmps26
    go_wp2
    exact bodyPost_ret (v := .agg #[.int .i64 lim, .int .i64 (-1), .slice none 0 0]) (by simp [results, Try.results26, go_sem]) rfl ⟨by rw [H.out], below_alloc (Below.refl _ _) _⟩
def RefBlk (W : World) (rb : Nat) (lim num : Int) (v : Value) : Prop := W.heap[rb]? = some (.cells #[.int .i64 lim, .int .i64 num, v] 55 (0, 0))
theorem BufO.kept {O : Nat → Prop} {g : Nat} {W W' : World} {lim num : Int} {xs : List Ev} (h : BufO O W g lim num xs) (hk : ∀ k, (O k ∨ k = g) → k < W.heap.size → W'.heap[k]? = W.heap[k]?) : BufO O W' g lim num xs := by
  obtain ⟨A, c, h1, h2⟩ := h
  exact ⟨A, c, (hk g (.inr rfl) h1.lt).trans h1, Kd.R_step h2 (fun k ho hlt => hk k (.inl ho.1) hlt)⟩
theorem BufO.mono {O O' : Nat → Prop} {g : Nat} {W : World} {lim num : Int} {xs : List Ev} (h : BufO O W g lim num xs) (hk : ∀ k, O k → k < W.heap.size → O' k) : BufO O' W g lim num xs := by
  obtain ⟨A, c, h1, h2⟩ := h
  exact ⟨A, c, h1, Kd.R_mono (Kd.R_bound h2) (fun k ho => ⟨hk k ho.1.1 ho.2.2.1, ho.1.2⟩)⟩
theorem openD {O : Nat → Prop} {g : Nat} {w : World} {lim num : Int} {xs : List Ev} (h : BufO O w g lim num xs) (hn : closedOr num xs) : Calls Try.prog 30 #[.pointer (some ⟨g, 0, none⟩)] w fun e w' => e = .returned (.bool (decide (0 ≤ num))) ∧ w = w' := by
  obtain ⟨A, c, hk, _⟩ := h
  have e : decide (0 ≤ num) = (num != -1) := by
    rcases hn with ⟨rfl, _⟩ | h
    · rfl
    · rw [decide_eq_true h, bne_iff_ne.2 (by omega)]
  rw [e]
  exact open_calls g lim num _ w hk
theorem clearO {O : Nat → Prop} {g : Nat} {w : World} {lim num : Int} {xs : List Ev} (h : BufO O w g lim num xs) : Calls Try.prog 28 #[.pointer (some ⟨g, 0, none⟩)] w fun e w' => e = .returned (.tuple #[]) ∧ BufO (fun _ => False) w' g lim (-1) [] ∧ FrameO (fun _ => False) g w w' := by
  obtain ⟨A, c, hk, hr⟩ := h
  refine (clear_calls g lim num _ w hk ⟨_, _, _, rfl⟩).mono ?_
  rintro e w' ⟨rfl, rfl⟩
  exact ⟨rfl, ⟨none, 0, (hk.set1 (-1)).set2 _, EvRowO.nil _ _ _⟩, ((FrameO.refl _ _ _).set 1 _).set 2 _⟩
/-- what holds of the world at a round's head: the buffer and the document's state have the same events -/
structure PlaysInv (w : World) (g rb : Nat) (lim : Int) (W : World) (num : Int) (xs : List Ev) (O ok : Nat → Prop) (A : Option Addr) (c : Nat) : Prop where
  closed : closedOr num xs
  lims : (xs.length : Int) ≤ lim
  buf : BufO O W g lim num xs
  blk : RefBlk W rb lim num (.slice A xs.length c)
  row : Kd.N kEv 49 W 0 ok (.slice A xs.length c) xs
  oO : ∀ k, O k → w.heap.size ≤ k ∧ k < W.heap.size ∧ k ≠ rb ∧ k ≠ g ∧ ¬ ok k
  oK : ∀ k, ok k → k ≠ g ∧ k ≠ rb ∧ k < W.heap.size
  args : ∀ k, k < w.heap.size → ok k
  ne : rb ≠ g
  lo : w.heap.size ≤ g ∧ w.heap.size ≤ rb
  below : Below w.heap.size w W
theorem put_rightO (O : Nat → Prop) (g : Nat) (lim num : Int) (xs : List Ev) (x : Ev) {A3 A4 A7 : Option Addr} {c3 c4 c7 : Nat} (w : World) (hK : kEv.K w (rightE x) [.int .i64 x.kind, .int .i64 (signed x.num), .string x.table, .slice A3 x.before.length c3, .slice A4 x.after.length c4, .int .i64 x.change.kind, .string x.change.table, .slice A7 x.change.schema.cols.length c7, .int .i64 x.change.schema.keys, .string x.change.column.name, .int .i64 x.change.column.kind, .bool x.change.column.none]) (hf : EvFit x) (hb : BufO O w g lim num xs) (hB : ∀ k, w.heap.size ≤ k → O k) (hl : xs.length ≤ 1000000) :
    Calls Try.prog 22 #[.pointer (some ⟨g, 0, none⟩), .agg #[.int .i64 x.kind, .int .i64 (signed x.num), .string x.table, .slice A3 x.before.length c3, .slice A4 x.after.length c4, .int .i64 x.change.kind, .string x.change.table, .slice A7 x.change.schema.cols.length c7, .int .i64 x.change.schema.keys, .string x.change.column.name, .int .i64 x.change.column.kind, .bool x.change.column.none]] w (ToldO O g w lim (putR lim num xs (rightE x))) :=
  put_callsO O g lim num xs (rightE x) _ w hb hB hK hf.right hl
theorem refput_right (ok : Nat → Prop) (base : Nat) (lim num : Int) (xs : List Ev) (x : Ev) (A : Option Addr) (c : Nat) {A3 A4 A7 : Option Addr} {c3 c4 c7 : Nat} (w : World) (hN : Kd.N kEv 49 w base ok (.slice A xs.length c) xs) (hnum : closedOr num xs) (hlim : (xs.length : Int) ≤ lim) (hl : xs.length ≤ 1000000) (hbase : base ≤ w.heap.size) (hfr : ∀ k, w.heap.size ≤ k → ok k) (okx : Nat → Prop) (hX : Kd.FK kEv w okx (rightE x) [.int .i64 x.kind, .int .i64 (signed x.num), .string x.table, .slice A3 x.before.length c3, .slice A4 x.after.length c4, .int .i64 x.change.kind, .string x.change.table, .slice A7 x.change.schema.cols.length c7, .int .i64 x.change.schema.keys, .string x.change.column.name, .int .i64 x.change.column.kind, .bool x.change.column.none]) (hox : ∀ k, okx k → ok k) :
    Calls Try.prog 29 #[.agg #[.int .i64 lim, .int .i64 num, .slice A xs.length c], .agg #[.int .i64 x.kind, .int .i64 (signed x.num), .string x.table, .slice A3 x.before.length c3, .slice A4 x.after.length c4, .int .i64 x.change.kind, .string x.change.table, .slice A7 x.change.schema.cols.length c7, .int .i64 x.change.schema.keys, .string x.change.column.name, .int .i64 x.change.column.kind, .bool x.change.column.none]] w (RefTell ok base w lim (putR lim num xs (rightE x))) :=
  refput_calls ok base lim num xs (rightE x) A c w hN hnum hlim hl hbase hfr okx hX hox
theorem ref_cells {W : World} {rb : Nat} {lim num : Int} {v : Value} (h : RefBlk W rb lim num v) : W.cell? ⟨rb, 0, none⟩ = some (.int .i64 lim) ∧ W.cell? ⟨rb, 1, none⟩ = some (.int .i64 num) ∧ W.cell? ⟨rb, 2, none⟩ = some v :=
  ⟨cell_of_row W rb 0 _ _ _ h, cell_of_row W rb 1 _ _ _ h, cell_of_row W rb 2 _ _ _ h⟩
theorem PlaysInv.later {w : World} {g rb : Nat} {lim : Int} {W W' : World} {num : Int} {xs : List Ev} {O ok : Nat → Prop} {A : Option Addr} {c : Nat} (h : PlaysInv w g rb lim W num xs O ok A c) (hb : Below W.heap.size W W') : PlaysInv w g rb lim W' num xs O ok A c :=
  ⟨h.closed, h.lims, h.buf.below hb, (hb.block rb (Array.getElem?_eq_some_iff.1 h.blk).1).trans h.blk, Kd.N_below h.row hb, fun k hk => by have := h.oO k hk; have := hb.size; exact ⟨by omega, by omega, by omega, by omega, by have := h.oO k hk; exact this.2.2.2.2⟩, fun k hk => by have h1 := h.oK k hk; have := hb.size; exact ⟨h1.1, h1.2.1, by omega⟩, h.args, h.ne, h.lo, h.below.trans (hb.mono h.below.size)⟩
theorem set3_other (W : World) (rb : Nat) (a b c : Value) (k : Nat) (hk : k ≠ rb) : (((W.setCell ⟨rb, 0, none⟩ a).setCell ⟨rb, 1, none⟩ b).setCell ⟨rb, 2, none⟩ c).heap[k]? = W.heap[k]? := by
  rw [heap_setCell_other _ _ _ _ (by simpa using hk), heap_setCell_other _ _ _ _ (by simpa using hk), heap_setCell_other _ _ _ _ (by simpa using hk)]
theorem set3_same (W : World) (rb : Nat) (a b c x y z : Value) (t : TypeId) (h : W.heap[rb]? = some (.cells #[x, y, z] t (0, 0))) : (((W.setCell ⟨rb, 0, none⟩ a).setCell ⟨rb, 1, none⟩ b).setCell ⟨rb, 2, none⟩ c).heap[rb]? = some (.cells #[a, b, c] t (0, 0)) :=
  heap_setCell_same _ rb 2 _ _ c (heap_setCell_same _ rb 1 _ _ b (heap_setCell_same _ rb 0 _ _ a h))
theorem set3_below (W : World) (rb B : Nat) (a b c : Value) (hB : B ≤ rb) : Below B W (((W.setCell ⟨rb, 0, none⟩ a).setCell ⟨rb, 1, none⟩ b).setCell ⟨rb, 2, none⟩ c) :=
  (((Below.refl B W).setCell (p := ⟨rb, 0, none⟩) hB a).setCell (p := ⟨rb, 1, none⟩) hB b).setCell (p := ⟨rb, 2, none⟩) hB c
/-- a round's new state, behind the document's Put: the world is stepped from w5 (behind the buffer's Put) over w6 (behind the document's) to w8 (its state stored) -/
theorem plays_step {w wr w4 w5 w6 w8 : World} {rb g : Nat} {lim num num' : Int} {xs xs' out : List Ev} {O ok : Nat → Prop} {A B6 A5 B7 : Option Addr} {c d6 c5 d7 : Nat} (h : PlaysInv w g rb lim wr num xs O ok A c)
    (h45 : wr.heap.size < w4.heap.size) (h5 : w4.heap.size ≤ w5.heap.size) (hbel5 : Below w.heap.size w w5) (h6 : Below w5.heap.size w5 w6) (o8 : ∀ k, k ≠ rb → k < w6.heap.size → w8.heap[k]? = w6.heap[k]?) (b8 : RefBlk w8 rb lim num' (.slice B6 xs'.length d6)) (s8 : w6.heap.size ≤ w8.heap.size) (hb8 : Below w.heap.size w6 w8)
    (hc : closedOr num' xs') (hl : (xs'.length : Int) ≤ lim) (hbuf : BufO (fun k => O k ∨ w4.heap.size ≤ k) w5 g lim num' xs') (hrow : EvRowO (fun k => O k ∨ w4.heap.size ≤ k) g w5 (.slice A5 out.length c5) out)
    (hN6 : Kd.N kEv 49 w6 0 (fun k => ok k ∨ w5.heap.size ≤ k) (.slice B6 xs'.length d6) xs') (hN7 : Kd.N kEv 49 w6 0 (fun k => ok k ∨ w5.heap.size ≤ k) (.slice B7 out.length d7) out) :
    PlaysInv w g rb lim w8 num' xs' (fun k => (O k ∨ w4.heap.size ≤ k) ∧ k < w5.heap.size) (fun k => (ok k ∨ w5.heap.size ≤ k) ∧ k < w6.heap.size) B6 d6 ∧ kEv.C w8 A5 out.length out ∧ kEv.C w8 B7 out.length out := by
  have hgl : g < wr.heap.size := by obtain ⟨_, _, hh, _⟩ := h.buf; exact hh.lt
  have hrl : rb < wr.heap.size := (Array.getElem?_eq_some_iff.1 h.blk).1
  have hrg : rb ≠ g := h.ne
  have h6s := h6.size
  have hlo := h.lo
  have hO : ∀ k, (O k ∨ w4.heap.size ≤ k) → w.heap.size ≤ k ∧ k ≠ rb ∧ k ≠ g := fun k hk => by
    rcases hk with hk | hk
    · have := h.oO k hk; exact ⟨by omega, by omega, by omega⟩
    · exact ⟨by omega, by omega, by omega⟩
  have hK : ∀ k, (ok k ∨ w5.heap.size ≤ k) → k ≠ g ∧ k ≠ rb := fun k hk => by
    rcases hk with hk | hk
    · have := h.oK k hk; exact ⟨this.1, this.2.1⟩
    · exact ⟨by omega, by omega⟩
  refine ⟨⟨hc, hl, BufO.kept (BufO.mono hbuf (fun k hk hlt => ⟨hk, hlt⟩)) (fun k hk hlt => ?_), b8, Kd.N_step (Kd.N_bound hN6) (fun k hk hlt => o8 k (hK k hk.1).2 hlt), fun k hk => ?_, fun k hk => ?_, fun k hk => ⟨.inl (h.args k hk), by have := hbel5.size; omega⟩, hrg, hlo, hbel5.trans ((h6.mono hbel5.size).trans hb8)⟩, ?_, ?_⟩
  · refine (o8 k ?_ (by omega)).trans (h6.block k hlt)
    rcases hk with hk | hk
    · exact (hO k hk.1).2.1
    · omega
  · refine ⟨(hO k hk.1).1, by omega, (hO k hk.1).2.1, (hO k hk.1).2.2, fun hk2 => ?_⟩
    rcases hk.1 with h1 | h1
    · rcases hk2.1 with h2 | h2
      · exact (h.oO k h1).2.2.2.2 h2
      · omega
    · rcases hk2.1 with h2 | h2
      · have := (h.oK k h2).2.2; omega
      · omega
  · exact ⟨(hK k hk.1).1, (hK k hk.1).2, by omega⟩
  · have h1 : kEv.R 49 w8 0 _ (.slice A5 out.length c5) out := Kd.R_step hrow (fun k hk hlt => (o8 k (hO k hk.1).2.1 (by omega)).trans (h6.block k hlt))
    exact (Kd.N_reads' (Kd.R_N h1)).2.2
  · exact (Kd.N_reads' (Kd.N_step hN7 (fun k hk hlt => o8 k (hK k hk).2 hlt))).2.2
end Go.Proofs.Ytjkgafijifkfcaa
