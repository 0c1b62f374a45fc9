/- The buffer's small methods: what they tell, and what becomes of the buffer. Conditions: the buffer stands where the pointer points. -/
import Derived.Test.YtjkgafijifkfcaaTxOwn
import Derived.Laws.EntriesVeiled
import Derived.Test.YtjkgafijifkfcaaWMore
namespace Go.Proofs.Ytjkgafijifkfcaa
open Go.RowKit Go.Proofs.YtjkgafijifkfcaaW.PrintWords Go.Proofs.YtjkgafijifkfcaaW.PrintMore
set_option linter.unusedVariables false
set_option linter.unusedSimpArgs false

/-- what a kind of events does -/
def doesFn (k : Int) : Nat := if k = 2 then 41 else if k = 3 ∨ k = 4 ∨ k = 5 ∨ k = 6 then 42 else if k = 7 ∨ k = 8 then 43 else 44
def DoesTell (A : Option Addr) (k : Int) (w : World) (e : Ending) (w' : World) : Prop := e = .returned (.func (.func (doesFn k)) #[.pointer A] #[]) ∧ w = w'
set_option maxHeartbeats 1000000 in
theorem does_calls (A : Option Addr) (k : Int) (w : World) : Calls Try.prog 37 #[.pointer A, .int .i64 k] w (DoesTell A k w) := by
  by_cases h2 : k = 2
  · subst h2
    go_enter Try.func37, Try.ntmps37
    go_wp2
    go_ret
    exact ⟨rfl, rfl⟩
  by_cases h3 : k = 3
  · subst h3
    go_enter Try.func37, Try.ntmps37
    go_wp2
    go_ret
    exact ⟨rfl, rfl⟩
  by_cases h4 : k = 4
  · subst h4
    go_enter Try.func37, Try.ntmps37
    go_wp2
    go_ret
    exact ⟨rfl, rfl⟩
  by_cases h5 : k = 5
  · subst h5
    go_enter Try.func37, Try.ntmps37
    go_wp2
    go_ret
    exact ⟨rfl, rfl⟩
  by_cases h6 : k = 6
  · subst h6
    go_enter Try.func37, Try.ntmps37
    go_wp2
    go_ret
    exact ⟨rfl, rfl⟩
  by_cases h7 : k = 7
  · subst h7
    go_enter Try.func37, Try.ntmps37
    go_wp2
    go_ret
    exact ⟨rfl, rfl⟩
  by_cases h8 : k = 8
  · subst h8
    go_enter Try.func37, Try.ntmps37
    go_wp2
    go_ret
    exact ⟨rfl, rfl⟩
  have hd : doesFn k = 44 := by unfold doesFn; simp [h2, h3, h4, h5, h6, h7, h8]
  have HD := Aside0.mk hd
  clear hd
  have b2 : (k == 2) = false := beq_eq_false_iff_ne.2 h2
  have b3 : (k == 3) = false := beq_eq_false_iff_ne.2 h3
  have b4 : (k == 4) = false := beq_eq_false_iff_ne.2 h4
  have b5 : (k == 5) = false := beq_eq_false_iff_ne.2 h5
  have b6 : (k == 6) = false := beq_eq_false_iff_ne.2 h6
  have b7 : (k == 7) = false := beq_eq_false_iff_ne.2 h7
  have b8 : (k == 8) = false := beq_eq_false_iff_ne.2 h8
  clear h2 h3 h4 h5 h6 h7 h8
  go_enter Try.func37, Try.ntmps37
  go_wp2
  go_ret
  exact ⟨by rw [HD.out]; rfl, rfl⟩

/-- a buffer's block: its limit, its number, its row -/
def BufBlk (W : World) (g : Nat) (lim num : Int) (lv : Value) : Prop := W.heap[g]? = some (.cells #[.int .i64 lim, .int .i64 num, lv] 73 (0, 0))
theorem BufBlk.c0 {W : World} {g : Nat} {lim num : Int} {lv : Value} (h : BufBlk W g lim num lv) : W.cell? ⟨g, 0, none⟩ = some (.int .i64 lim) := cell_of_row W g 0 _ _ _ h
theorem BufBlk.c1 {W : World} {g : Nat} {lim num : Int} {lv : Value} (h : BufBlk W g lim num lv) : W.cell? ⟨g, 1, none⟩ = some (.int .i64 num) := cell_of_row W g 1 _ _ _ h
theorem BufBlk.c2 {W : World} {g : Nat} {lim num : Int} {lv : Value} (h : BufBlk W g lim num lv) : W.cell? ⟨g, 2, none⟩ = some lv := cell_of_row W g 2 _ _ _ h
theorem BufBlk.free {W : World} {g : Nat} {lim num : Int} {lv : Value} (h : BufBlk W g lim num lv) (i : Nat) : W.frozen? ⟨g, i, none⟩ = false := frozen_of_row W g i _ _ h
theorem BufBlk.lt {W : World} {g : Nat} {lim num : Int} {lv : Value} (h : BufBlk W g lim num lv) : g < W.heap.size := (Array.getElem?_eq_some_iff.1 h).1
theorem BufBlk.set1 {W : World} {g : Nat} {lim num : Int} {lv : Value} (h : BufBlk W g lim num lv) (n : Int) : BufBlk (W.setCell ⟨g, 1, none⟩ (.int .i64 n)) g lim n lv := heap_setCell_same W g 1 _ _ _ h
theorem BufBlk.set2 {W : World} {g : Nat} {lim num : Int} {lv : Value} (h : BufBlk W g lim num lv) (v : Value) : BufBlk (W.setCell ⟨g, 2, none⟩ v) g lim num v := heap_setCell_same W g 2 _ _ _ h
theorem BufBlk.below {W W' : World} {g : Nat} {lim num : Int} {lv : Value} (h : BufBlk W g lim num lv) (hb : Below W.heap.size W W') : BufBlk W' g lim num lv := (hb.block g h.lt).trans h

theorem open_calls (g : Nat) (lim num : Int) (lv : Value) (w : World) (h : BufBlk w g lim num lv) :
    Calls Try.prog 30 #[.pointer (some ⟨g, 0, none⟩)] w fun e w' => e = .returned (.bool (num != -1)) ∧ w = w' := by
  have h1 := h.c1
  clear h
  go_enter Try.func30, Try.ntmps30
  go_wp2
  go_ret
  exact ⟨rfl, rfl⟩
theorem open_no (g : Nat) (w : World) (h1 : w.cell? ⟨g, 1, none⟩ = some (.int .i64 (-1))) :
    Calls Try.prog 30 #[.pointer (some ⟨g, 0, none⟩)] w fun e w' => e = .returned (.bool false) ∧ w = w' := by
  go_enter Try.func30, Try.ntmps30
  go_wp2
  go_ret
  exact ⟨rfl, rfl⟩
theorem open_yes (g : Nat) (num : Int) (w : World) (hn : (num != -1) = true) (h1 : w.cell? ⟨g, 1, none⟩ = some (.int .i64 num)) :
    Calls Try.prog 30 #[.pointer (some ⟨g, 0, none⟩)] w fun e w' => e = .returned (.bool true) ∧ w = w' := by
  go_enter Try.func30, Try.ntmps30
  go_wp2
  go_ret
  exact ⟨rfl, rfl⟩
theorem open_no' (g : Nat) (w : World) (h1 : w.cell? ⟨g, 1, none⟩ = some (.int .i64 (-1))) :
    Calls Try.prog 30 #[.pointer (some ⟨g, 0, none⟩)] w fun e w' => e = .returned (.bool false) ∧ w' = w :=
  (open_no g w h1).mono fun _ _ ⟨h, h'⟩ => ⟨h, h'.symm⟩
theorem number_calls (g : Nat) (lim num : Int) (lv : Value) (w : World) (h : BufBlk w g lim num lv) :
    Calls Try.prog 31 #[.pointer (some ⟨g, 0, none⟩)] w fun e w' => e = .returned (.int .i64 num) ∧ w = w' := by
  have h1 := h.c1
  clear h
  go_enter Try.func31, Try.ntmps31
  go_wp2
  go_ret
  exact ⟨rfl, rfl⟩
theorem len_calls (g : Nat) (lim num : Int) (A : Option Addr) (n c : Nat) (w : World) (h : BufBlk w g lim num (.slice A n c)) :
    Calls Try.prog 25 #[.pointer (some ⟨g, 0, none⟩)] w fun e w' => e = .returned (.int .i64 n) ∧ w = w' := by
  have h1 := h.c2
  clear h
  go_enter Try.func25, Try.ntmps25
  go_wp2
  go_ret
  exact ⟨rfl, rfl⟩
/-- the world with the buffer's two fields turned -/
theorem clear_calls (g : Nat) (lim num : Int) (lv : Value) (w : World) (h : BufBlk w g lim num lv) (hs : ∃ A n c, lv = .slice A n c) :
    Calls Try.prog 28 #[.pointer (some ⟨g, 0, none⟩)] w fun e w' => e = .returned (.tuple #[]) ∧ w' = (w.setCell ⟨g, 1, none⟩ (.int .i64 (-1))).setCell ⟨g, 2, none⟩ (.slice none 0 0) := by
  obtain ⟨A, n, c, rfl⟩ := hs
  have h1 := h.c1
  have h2 := h.c2
  have f1 := h.free 1
  have f2 := h.free 2
  have h2' := (h.set1 (-1)).c2
  have f2' := (h.set1 (-1)).free 2
  clear h
  go_enter Try.func28, Try.ntmps28
  go_wp2
  go_end0
  exact ⟨rfl, rfl⟩
theorem max_one (a : Int) : (if a < 1 then (1 : Int) else a) = max a 1 := by omega
theorem txnew_calls (lim : Int) (w : World) : Calls Try.prog 21 #[.int .i64 lim] w fun e w' => e = .returned (.pointer (some ⟨w.heap.size, 0, none⟩)) ∧ w' = w.alloc (.cells #[.int .i64 (max lim 1), .int .i64 (-1), .slice none 0 0] 73) := by
  have hm : ∀ (ats : Array TypeId) (ty : TypeId), Builtin.max_ ats ty #[.int .i64 lim, .int .i64 1] = pure (.int .i64 (max lim 1)) := fun ats ty => by
    rw [max_two]
    simp only [max2_int, pure_bind]
    congr 2
    split <;> omega
  go_enter Try.func21, Try.ntmps21
  go_wp2
  go_ret
  exact ⟨rfl, rfl⟩
end Go.Proofs.Ytjkgafijifkfcaa
