/- What begin, end and nothing do to a buffer. Conditions: the buffer stands where the pointer points; the event reads so. -/
import Derived.Test.YtjkgafijifkfcaaTxDoes
import Derived.Deep.RegionHeld3
import Derived.Deep.QuietTactic
import Derived.BigQuiet
namespace Go.Proofs.Ytjkgafijifkfcaa
open Go.RowKit Go.Proofs.YtjkgafijifkfcaaW.PrintWords
set_option linter.unusedVariables false
set_option linter.unusedSimpArgs false

/-- All that is none of the buffer's own is as it was. -/
structure FrameO (O : Nat → Prop) (g : Nat) (w w' : World) : Prop where
  os : w'.os = w.os
  tape : w'.tape = w.tape
  output : w'.output = w.output
  size : w.heap.size ≤ w'.heap.size
  block : ∀ k, k < w.heap.size → ¬ O k → k ≠ g → w'.heap[k]? = w.heap[k]?
theorem FrameO.refl (O : Nat → Prop) (g : Nat) (w : World) : FrameO O g w w := ⟨rfl, rfl, rfl, Nat.le_refl _, fun _ _ _ _ => rfl⟩
theorem FrameO.trans {O : Nat → Prop} {g : Nat} {a b c : World} (h : FrameO O g a b) (k : FrameO O g b c) : FrameO O g a c :=
  ⟨k.os.trans h.os, k.tape.trans h.tape, k.output.trans h.output, Nat.le_trans h.size k.size, fun i hi ho hg => (k.block i (Nat.lt_of_lt_of_le hi h.size) ho hg).trans (h.block i hi ho hg)⟩
theorem FrameO.of {O : Nat → Prop} {g : Nat} {w w' : World} (h : Below w.heap.size w w') : FrameO O g w w' := ⟨h.os, h.tape, h.output, h.size, fun k hk _ _ => h.block k hk⟩
theorem FrameO.set {O : Nat → Prop} {g : Nat} {w w' : World} (h : FrameO O g w w') (i : Nat) (v : Value) : FrameO O g w (w'.setCell ⟨g, i, none⟩ v) :=
  h.trans ⟨rfl, rfl, rfl, by simp [World.setCell], fun k _ _ hk => heap_setCell_other _ _ _ _ (by simpa using hk)⟩
theorem FrameO.grown {O : Nat → Prop} {g : Nat} {a w w' : World} {row : Option Nat} (h : FrameO O g a w) (hg : w.grownBy w' row) (hr : ∀ k, row = some k → O k) : FrameO O g a w' :=
  h.trans ⟨hg.os, hg.tape, hg.output, hg.size, fun k hk ho _ => hg.block k hk (fun e => ho (hr k e.symm))⟩

def EvRowO (O : Nat → Prop) (g : Nat) (W : World) (v : Value) (xs : List Ev) : Prop := kEv.R 49 W 0 (fun k => O k ∧ k ≠ g) v xs
theorem EvRowO.nil (O : Nat → Prop) (g : Nat) (W : World) : EvRowO O g W (.slice none 0 0) [] := Kd.R_nil _ _ _ _ _
theorem EvRowO.below {O : Nat → Prop} {g : Nat} {W W' : World} {v : Value} {xs : List Ev} (h : EvRowO O g W v xs) (hb : Below W.heap.size W W') : EvRowO O g W' v xs := Kd.R_below h hb
theorem EvRowO.set {O : Nat → Prop} {g : Nat} {W : World} {v : Value} {xs : List Ev} (h : EvRowO O g W v xs) (i : Nat) (u : Value) : EvRowO O g (W.setCell ⟨g, i, none⟩ u) v xs := Kd.R_far (p := ⟨g, i, none⟩) h (fun k hk => hk.2) u
def BufO (O : Nat → Prop) (W : World) (g : Nat) (lim num : Int) (xs : List Ev) : Prop := ∃ A c, BufBlk W g lim num (.slice A xs.length c) ∧ EvRowO O g W (.slice A xs.length c) xs
/-- what a call tells, and the buffer behind it -/
def PutTellO (O : Nat → Prop) (g : Nat) (w : World) (lim num : Int) (xs out : List Ev) (t : Bool) (r : Int) (e : Ending) (w' : World) : Prop :=
  ∃ v, e = .returned (.tuple #[v, .bool t, .int .i64 r]) ∧ EvRowO O g w' v out ∧ BufO O w' g lim num xs ∧ FrameO O g w w'
theorem PutTellO.mk {O : Nat → Prop} {g : Nat} {w w' : World} {lim num r : Int} {xs out : List Ev} {t : Bool} (v : Value) (h1 : EvRowO O g w' v out) (h2 : BufO O w' g lim num xs) (h3 : FrameO O g w w') : PutTellO O g w lim num xs out t r (.returned (.tuple #[v, .bool t, .int .i64 r])) w' := ⟨v, rfl, h1, h2, h3⟩
theorem BufO.below {O : Nat → Prop} {g : Nat} {W W' : World} {lim num : Int} {xs : List Ev} (h : BufO O W g lim num xs) (hb : Below W.heap.size W W') : BufO O W' g lim num xs := by
  obtain ⟨A, c, h1, h2⟩ := h
  exact ⟨A, c, h1.below hb, h2.below hb⟩
theorem BufO.number {O : Nat → Prop} {g : Nat} {W : World} {lim num : Int} {xs : List Ev} (h : BufO O W g lim num xs) (n : Int) : BufO O (W.setCell ⟨g, 1, none⟩ (.int .i64 n)) g lim n xs := by
  obtain ⟨A, c, h1, h2⟩ := h
  exact ⟨A, c, h1.set1 n, h2.set 1 _⟩
theorem BufO.cleared {O : Nat → Prop} {g : Nat} {W : World} {lim num : Int} {xs : List Ev} (h : BufO O W g lim num xs) : BufO O ((W.setCell ⟨g, 1, none⟩ (.int .i64 (-1))).setCell ⟨g, 2, none⟩ (.slice none 0 0)) g lim (-1) [] := by
  obtain ⟨A, c, h1, h2⟩ := h
  exact ⟨none, 0, (h1.set1 (-1)).set2 _, EvRowO.nil _ _ _⟩

set_option maxRecDepth 100000 in
set_option maxHeartbeats 1000000 in
theorem nothing_calls (O : Nat → Prop) (g : Nat) (lim num : Int) (xs : List Ev) (x : Ev) (cs : List Value) (w : World) (hb : BufO O w g lim num xs) (hB : ∀ k, w.heap.size ≤ k → O k) (hK : kEv.K w x cs) :
    Calls Try.prog 44 #[.pointer (some ⟨g, 0, none⟩), .agg cs.toArray] w (PutTellO O g w lim num xs [] false 0) := by
  obtain ⟨A3, c3, A4, c4, A7, c7, rfl, l3, g3, l4, g4, l7, g7⟩ := kEv_open hK
  have HB := Aside0.mk hb
  clear hK hb g3 g4 g7
  go_enter Try.func44, Try.ntmps44
  go_wp2
  go_ret3
  exact PutTellO.mk _ (EvRowO.nil _ _ _) (HB.out.below (below_alloc (Below.refl _ _) _)) (FrameO.of (below_alloc (Below.refl _ _) _))

set_option maxRecDepth 100000 in
set_option maxHeartbeats 1000000 in
theorem begin_calls (O : Nat → Prop) (g : Nat) (lim num : Int) (xs : List Ev) (x : Ev) (cs : List Value) (w : World) (hb : BufO O w g lim num xs) (hB : ∀ k, w.heap.size ≤ k → O k) (hK : kEv.K w x cs) :
    Calls Try.prog 41 #[.pointer (some ⟨g, 0, none⟩), .agg cs.toArray] w (PutTellO O g w lim (if num = -1 then x.num else num) xs [] false (if num = -1 then 0 else 14)) := by
  obtain ⟨A3, c3, A4, c4, A7, c7, rfl, l3, g3, l4, g4, l7, g7⟩ := kEv_open hK
  have HB := Aside0.mk hb
  obtain ⟨A, c, h1, h2⟩ := hb
  have HO := Aside0.mk (fun W (h : Below w.heap.size w W) => open_calls g lim num _ W (h1.below h))
  have HBlk := Aside0.mk h1
  have hgl := h1.lt
  clear hK g3 g4 g7 h1 h2
  by_cases hn : num = -1
  · subst hn
    rw [if_pos rfl, if_pos rfl]
    have e1 : ((-1 : Int) != -1) = false := by decide
    have q := fun o => (HBlk.out.below (below_alloc (Below.refl _ _) o)).c1
    have f := fun o => (HBlk.out.below (below_alloc (Below.refl _ _) o)).free 1
    go_enter Try.func41, Try.ntmps41
    go_wp2_with (go_at_call 30; (with_reducible refine (HO.out _ (below_alloc (Below.refl _ _) _)).mono ?_); rintro e w1 ⟨rfl, rfl⟩)
    go_ret3
    exact PutTellO.mk _ (EvRowO.nil _ _ _) ((HB.out.number _).below (below_alloc (Below.refl _ _) _)) (((FrameO.refl _ _ _).set 1 _).trans (FrameO.of (below_alloc (Below.refl _ _) _)))
  · have e1 : (num != -1) = true := bne_iff_ne.2 hn
    rw [if_neg hn, if_neg hn]
    clear hn
    go_enter Try.func41, Try.ntmps41
    go_wp2_with (go_at_call 30; (with_reducible refine (HO.out _ (below_alloc (Below.refl _ _) _)).mono ?_); rintro e w1 ⟨rfl, rfl⟩)
    go_ret3
    exact PutTellO.mk _ (EvRowO.nil _ _ _) (HB.out.below (below_alloc (Below.refl _ _) _)) (FrameO.of (below_alloc (Below.refl _ _) _))

set_option maxRecDepth 100000 in
set_option maxHeartbeats 2000000 in
theorem end_bad (O : Nat → Prop) (g : Nat) (lim num : Int) (xs : List Ev) (x : Ev) (cs : List Value) (w : World) (hb : BufO O w g lim num xs) (hB : ∀ k, w.heap.size ≤ k → O k) (hK : kEv.K w x cs) (hbad : num = -1 ∨ x.num ≠ num) :
    Calls Try.prog 43 #[.pointer (some ⟨g, 0, none⟩), .agg cs.toArray] w (PutTellO O g w lim num xs [] false 14) := by
  obtain ⟨A3, c3, A4, c4, A7, c7, rfl, l3, g3, l4, g4, l7, g7⟩ := kEv_open hK
  have HB := Aside0.mk hb
  obtain ⟨A, c, h1, h2⟩ := hb
  have HBlk := Aside0.mk h1
  have hgl := h1.lt
  clear hK g3 g4 g7 h1 h2
  by_cases hn : num = -1
  · subst hn
    clear hbad
    have q := fun o => (HBlk.out.below (below_alloc (Below.refl _ _) o)).c1
    go_enter Try.func43, Try.ntmps43
    go_wp2
    go_quiet ((go_at_call 30; exact Calls.quiet_of_same (open_no' g _ (by first | exact q _ | simp [q]))))
    go_wp2
    go_ret3
    exact PutTellO.mk _ (EvRowO.nil _ _ _) (HB.out.below (pw_below_drewN (below_alloc (Below.refl _ _) _) _)) (FrameO.of (pw_below_drewN (below_alloc (Below.refl _ _) _) _))
  · have e1 : (num != -1) = true := bne_iff_ne.2 hn
    have e2 : (x.num != num) = true := bne_iff_ne.2 (hbad.resolve_left hn)
    have q := fun o => (HBlk.out.below (below_alloc (Below.refl _ _) o)).c1
    clear hn hbad
    go_enter Try.func43, Try.ntmps43
    go_wp2
    go_region_held3 (fun W => W.cell? ⟨g, 1, none⟩ = some (.int .i64 num) ∧ W.cell? ⟨w.heap.size, 1, none⟩ = some (.int .i64 x.num)) (go_keep)
      (first | (go_at_call 30; (with_reducible refine (open_yes g num _ e1 (by first | assumption | exact q _ | simp [q])).mono ?_); rintro e w1 ⟨rfl, rfl⟩))
    go_wp2
    go_ret3
    exact PutTellO.mk _ (EvRowO.nil _ _ _) (HB.out.below ((below_alloc (Below.refl _ _) _).drew)) (FrameO.of ((below_alloc (Below.refl _ _) _).drew))

set_option maxRecDepth 100000 in
set_option maxHeartbeats 2000000 in
theorem end_good (O : Nat → Prop) (g : Nat) (lim num : Int) (xs : List Ev) (x : Ev) (cs : List Value) (w : World) (hb : BufO O w g lim num xs) (hB : ∀ k, w.heap.size ≤ k → O k) (hK : kEv.K w x cs) (hn : ¬ num = -1) (hx : x.num = num) :
    Calls Try.prog 43 #[.pointer (some ⟨g, 0, none⟩), .agg cs.toArray] w (PutTellO O g w lim (-1) [] (if x.kind = 8 then [] else xs) (if x.kind = 8 then false else true) 0) := by
  obtain ⟨A3, c3, A4, c4, A7, c7, rfl, l3, g3, l4, g4, l7, g7⟩ := kEv_open hK
  obtain ⟨A, c, h1, h2⟩ := hb
  have HBlk := Aside0.mk h1
  have HRow := Aside0.mk h2
  have HBuf := Aside0.mk (show BufO O w g lim num xs from ⟨A, c, h1, h2⟩)
  have hgl := h1.lt
  have e1 : (num != -1) = true := bne_iff_ne.2 hn
  have e2 : (x.num != num) = false := bne_eq_false_iff_eq.2 hx
  clear hK g3 g4 g7 h1 h2 hn hx
  have q := fun o => (HBlk.out.below (below_alloc (Below.refl _ _) o)).c1
  have q2 := fun o => (HBlk.out.below (below_alloc (Below.refl _ _) o)).c2
  have HC : Aside0 (∀ W, Below w.heap.size w W → Calls Try.prog 28 #[.pointer (some ⟨g, 0, none⟩)] W fun e w' => e = .returned (.tuple #[]) ∧ w' = (W.setCell ⟨g, 1, none⟩ (.int .i64 (-1))).setCell ⟨g, 2, none⟩ (.slice none 0 0)) := ⟨fun W h => clear_calls g lim num _ W (HBlk.out.below h) ⟨_, _, _, rfl⟩⟩
  by_cases h8 : x.kind = 8
  · rw [if_pos h8, if_pos h8]
    have e8 : (x.kind == 8) = true := beq_iff_eq.2 h8
    clear h8
    go_enter Try.func43, Try.ntmps43
    go_wp2
    go_region_held3 (fun W => W.cell? ⟨g, 1, none⟩ = some (.int .i64 num) ∧ W.cell? ⟨w.heap.size, 1, none⟩ = some (.int .i64 x.num)) (go_keep)
      (first | (go_at_call 30; (with_reducible refine (open_yes g num _ e1 (by first | assumption | exact q _ | simp [q])).mono ?_); rintro e w1 ⟨rfl, rfl⟩))
    go_wp2_with (go_at_call 28; (with_reducible refine (HC.out _ ((below_alloc (Below.refl _ _) _).drew)).mono ?_); rintro e w2 ⟨rfl, rfl⟩)
    go_ret3
    exact PutTellO.mk _ (EvRowO.nil _ _ _) (HBuf.out.cleared.below ((below_alloc (Below.refl _ _) _).drew)) ((((FrameO.refl _ _ _).set 1 _).set 2 _).trans (FrameO.of ((below_alloc (Below.refl _ _) _).drew)))
  · rw [if_neg h8, if_neg h8]
    have e8 : (x.kind == 8) = false := beq_eq_false_iff_ne.2 h8
    clear h8
    go_enter Try.func43, Try.ntmps43
    go_wp2
    go_region_held3 (fun W => W.cell? ⟨g, 1, none⟩ = some (.int .i64 num) ∧ W.cell? ⟨w.heap.size, 1, none⟩ = some (.int .i64 x.num)) (go_keep)
      (first | (go_at_call 30; (with_reducible refine (open_yes g num _ e1 (by first | assumption | exact q _ | simp [q])).mono ?_); rintro e w1 ⟨rfl, rfl⟩))
    go_wp2_with (go_at_call 28; (with_reducible refine (HC.out _ ((below_alloc (Below.refl _ _) _).drew)).mono ?_); rintro e w2 ⟨rfl, rfl⟩)
    go_ret3
    exact PutTellO.mk _ (((HRow.out.set 1 _).set 2 _).below ((below_alloc (Below.refl _ _) _).drew)) (HBuf.out.cleared.below ((below_alloc (Below.refl _ _) _).drew)) ((((FrameO.refl _ _ _).set 1 _).set 2 _).trans (FrameO.of ((below_alloc (Below.refl _ _) _).drew)))
end Go.Proofs.Ytjkgafijifkfcaa
