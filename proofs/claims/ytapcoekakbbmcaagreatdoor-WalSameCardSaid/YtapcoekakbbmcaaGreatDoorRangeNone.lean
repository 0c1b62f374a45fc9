/- A range over an iterator that gives nothing: the loop is passed by. Plain lemma over any program, at the wide fence. -/
import Derived.RangeFuncNested
import Derived.RangeFuncBound
import Derived.RangeFuncCalls
import Derived.RangeFuncLeaves
import Derived.Shelf.Abstract
import Derived.Shelf.RegionOpen
import Derived.WalkKit
import Derived.OwnWalkIn
import Derived.TacticsInMore
import Derived.LoopNIn
import Derived.LoopIn
namespace Go.Proofs.YtapcoekakbbmcaaGreatDoor
open Go.RowKit Go.Shelf
set_option linter.unusedVariables false
theorem rangeFunc_none {P : Program} {n : Nat} {g : Operand} {ps : Array Tmp} {assign body : Code} {Q : Exit → Act → World → Prop} {a : Act} {w : World} {gf : Nat} {lb : Array Value}
    (hg : a.eval g = .func (.func gf) #[] lb) (eg : ∀ args w, (callFunc gf args).run P w = .ok (.enter gf args) w) {Post : World → World → Prop}
    (hseq : ∀ W1 : World, Below w.heap.size w W1 → W1.heap.size = w.heap.size + 2 → Calls P gf (#[.func (.yield (w.heap.size + 1)) #[] #[]] ++ lb) W1 fun e W2 => (∃ v, e = .returned v) ∧ W2.heap[w.heap.size + 1]? = W1.heap[w.heap.size + 1]? ∧ W2.heap[w.heap.size]? = W1.heap[w.heap.size]? ∧ Post W1 W2)
    (hdone : ∀ (W1 W2 : World) (o : Obj), Below w.heap.size w W1 → W1.heap.size = w.heap.size + 2 → Post W1 W2 → (W2.putObj (w.heap.size + 1) o).heap[w.heap.size]? = some (.deferred (some [])) → Q .normal { a with defers := { target := .collected w.heap.size, args := #[] } :: a.defers } (W2.putObj (w.heap.size + 1) o)) :
    (Code.rangeFunc g ps assign body).wpIn Fence.wide n P Q a w := by
  refine wpIn_rangeFunc ?_
  intro fn _
  obtain ⟨rec, hrec⟩ : ∃ rec : LoopState → Option Code → Loop, rec = fun st pe => { state := st, pending := pe, fn, tmps := a.tmps, params := ps, assign, body, defers := w.heap.size } := ⟨_, rfl⟩
  obtain ⟨W1, hW1⟩ : ∃ W1, (w.alloc (.deferred (some []))).alloc (.loop (rec .ready none)) = W1 := ⟨_, rfl⟩
  have hL1 : W1.heap[w.heap.size + 1]? = some (.loop (rec .ready none)) := by
    rw [← hW1]; have := World.alloc_heap_new (w.alloc (.deferred (some []))) (.loop (rec .ready none)); rwa [World.size_alloc] at this
  have hK1 : W1.heap[w.heap.size]? = some (.deferred (some [])) := by
    rw [← hW1]; exact (Below.heap_alloc _ _ _ (by simp)).trans (World.alloc_heap_new w _)
  have hb1 : Below w.heap.size w W1 := by
    rw [← hW1]; exact ((Below.refl _ w).alloc (Nat.le_refl _) _).alloc (by simp) _
  have hs1 : W1.heap.size = w.heap.size + 2 := by rw [← hW1]; simp
  refine ⟨w.heap.size + 1, [{ target := .collected w.heap.size, args := #[] }], W1, { target := .fn (.func gf) lb, args := #[.func (.yield (w.heap.size + 1)) #[] #[]] }, W1, gf,
    #[.func (.yield (w.heap.size + 1)) #[] #[]] ++ lb, W1, ?_, ?_, ?_, ?_, ?_, ?_⟩
  · rw [← hW1, hrec]; exact run_enterLoop_outer _ _ _ _ _
  · simp only [resolve, hg]
    simp [go_sem]
  · intro f' _; exact trivial
  · simp [invoke, go_sem, eg]
  · intro h; cases h
  · refine callsIn_wide.2 ((hseq W1 hb1 hs1).mono ?_)
    rintro e W2 ⟨⟨v, rfl⟩, hl, hk, hp⟩
    have hl2 := hl.trans hL1
    refine ⟨none, _, by have := run_endLoop (P := P) hl2 (by rw [hrec]; simp); rw [hrec] at this; exact this, ?_⟩
    exact hdone W1 W2 _ hb1 hs1 hp ((World.putObj_heap_other (by omega)).trans (hk.trans hK1))
theorem rangeFunc_none_wp {P : Program} {g : Operand} {ps : Array Tmp} {assign body : Code} {Q : Exit → Act → World → Prop} {a : Act} {w : World} {gf : Nat} {lb : Array Value}
    (hg : a.eval g = .func (.func gf) #[] lb) (eg : ∀ args w, (callFunc gf args).run P w = .ok (.enter gf args) w) {Post : World → World → Prop}
    (hseq : ∀ W1 : World, Below w.heap.size w W1 → W1.heap.size = w.heap.size + 2 → Calls P gf (#[.func (.yield (w.heap.size + 1)) #[] #[]] ++ lb) W1 fun e W2 => (∃ v, e = .returned v) ∧ W2.heap[w.heap.size + 1]? = W1.heap[w.heap.size + 1]? ∧ W2.heap[w.heap.size]? = W1.heap[w.heap.size]? ∧ Post W1 W2)
    (hdone : ∀ (W1 W2 : World) (o : Obj), Below w.heap.size w W1 → W1.heap.size = w.heap.size + 2 → Post W1 W2 → (W2.putObj (w.heap.size + 1) o).heap[w.heap.size]? = some (.deferred (some [])) → Q .normal { a with defers := { target := .collected w.heap.size, args := #[] } :: a.defers } (W2.putObj (w.heap.size + 1) o)) :
    (Code.rangeFunc g ps assign body).wp P Q a w := (wpIn_wide (n := 3)).1 (rangeFunc_none hg eg hseq hdone)
end Go.Proofs.YtapcoekakbbmcaaGreatDoor
