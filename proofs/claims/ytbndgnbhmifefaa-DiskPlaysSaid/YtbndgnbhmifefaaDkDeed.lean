/- do, in terms of the disk; Append. Conditions: the disk stands where the pointer points; the deed's function serves. -/
import Derived.Test.YtbndgnbhmifefaaDkFree
namespace Go.Proofs.Ytbndgnbhmifefaa
open Go.RowKit Go.Proofs.YtbndgnbhmifefaaW.PrintWords
set_option linter.unusedVariables false
set_option linter.unusedSimpArgs false
def doN (armed : Int) : Int := if armed = 0 then 12 else 0
def doA (armed : Int) : Int := if 0 < armed then armed - 1 else armed
def DoTell (O : Nat → Prop) (w : World) (g M : Nat) (room armed : Int) (down : Bool) (E : List DEnt) (Post : List DEnt → Prop) (x : Ending) (w' : World) : Prop :=
  x = .returned (.int .i64 (doN armed)) ∧ (armed = 0 → DRep O w' g M room (-1) true E) ∧ (armed ≠ 0 → ∃ E', Post E' ∧ DRep O w' g M room (doA armed) down E') ∧ DFrame O w w'
theorem do_deed (O : Nat → Prop) (g M : Nat) (room armed : Int) (down : Bool) (E : List DEnt) (Post : List DEnt → Prop) (fn : FuncId) (caps : Array Value) (w : World) (hf : ∀ W, Sem.run Try.prog (callFunc fn caps) W = .ok (.enter fn caps) W) (h : DRep O w g M room armed down E) (ha : armed ≤ 9223372036854775807)
    (hC : ∀ W a, DRep O W g M room a down E → DFrame O w W → Calls Try.prog fn caps W fun x w' => x = .returned (.tuple #[]) ∧ ∃ E', Post E' ∧ DRep O w' g M room a down E' ∧ DFrame O W w') :
    Calls Try.prog 26 #[.pointer (some ⟨g, 0, none⟩), .int .i64 0, .func (.func fn) #[] caps] w (DoTell O w g M room armed down E Post) := by
  unfold DoTell doN doA
  by_cases h0 : armed = 0
  · subst h0
    simp only [if_true]
    refine (do_down g fn caps down w h.c2 h.c3 (h.free 2) (h.free 3)).mono ?_
    rintro x w' ⟨rfl, rfl⟩
    refine ⟨rfl, fun _ => ?_, fun hh => absurd rfl hh, ((DFrame.refl _ _).set _ _ h.own.1).set _ _ h.own.1⟩
    exact (h.cell 3 (.bool true) rfl).cell 2 (.int .i64 (-1)) rfl
  · simp only [if_neg h0]
    by_cases hp : 0 < armed
    · simp only [if_pos hp]
      have h1 := h.cell 2 (.int .i64 (armed - 1)) (armed' := armed - 1) (down' := down) (room' := room) rfl
      have f1 : DFrame O w (w.setCell ⟨g, 2, none⟩ (.int .i64 (armed - 1))) := (DFrame.refl _ _).set _ _ h.own.1
      refine (do_some g fn caps armed w (fun w' => ∃ E', Post E' ∧ DRep O w' g M room (armed - 1) down E' ∧ DFrame O (w.setCell ⟨g, 2, none⟩ (.int .i64 (armed - 1))) w') hf hp ha h.c2 (h.free 2) (hC _ _ h1 f1)).mono ?_
      rintro x w' ⟨rfl, E', hP, hD, hF⟩
      exact ⟨rfl, fun hh => absurd hh h0, fun _ => ⟨E', hP, hD⟩, f1.trans hF⟩
    · simp only [if_neg hp]
      refine (do_none g fn caps armed w (fun w' => ∃ E', Post E' ∧ DRep O w' g M room armed down E' ∧ DFrame O w w') hf (by omega) h.c2 (hC _ _ h (DFrame.refl _ _))).mono ?_
      rintro x w' ⟨rfl, E', hP, hD, hF⟩
      exact ⟨rfl, fun hh => absurd hh h0, fun _ => ⟨E', hP, hD⟩, hF⟩
theorem appF (W : World) : Calls Try.prog 30 #[] W fun x w' => x = .returned (.tuple #[]) ∧ w' = W := by
  go_enter Try.func30, Try.ntmps30
  go_wp2
  go_end0
  exact ⟨rfl, rfl⟩
theorem do_app (O : Nat → Prop) (g M : Nat) (room armed : Int) (down : Bool) (E : List DEnt) (w : World) (h : DRep O w g M room armed down E) (ha : armed ≤ 9223372036854775807) :
    Calls Try.prog 26 #[.pointer (some ⟨g, 0, none⟩), .int .i64 0, .func (.func 30) #[] #[]] w (DoTell O w g M room armed down E (fun E' => E' = E)) :=
  do_deed O g M room armed down E _ 30 #[] w (fun W => by kernel_rfl) h ha (fun W a hD hF => (appF W).mono fun x w' ⟨hx, hw⟩ => ⟨hx, E, rfl, hw ▸ hD, hw ▸ DFrame.refl _ _⟩)
theorem concat_two (A B : Option Addr) (ca cb : Nat) (a b : List Int) (w : World) (ha : Kd.C kByt w A a.length a) (hca : a.length ≤ ca) (hb : Kd.C kByt w B b.length b) (hcb : b.length ≤ cb) (hl : a.length + b.length ≤ 140737488355328) :
    Calls Try.prog 29 #[.slice (some ⟨w.heap.size, 0, none⟩) 2 2] (w.alloc (.cells #[.slice A a.length ca, .slice B b.length cb] 22)) (Fresh (w.alloc (.cells #[.slice A a.length ca, .slice B b.length cb] 22)) (a ++ b)) := by
  have := concat_calls (some ⟨w.heap.size, 0, none⟩) 2 [a, b] _ (C_two ha hca hb hcb) (by simp [lens]; omega)
  simpa using this
end Go.Proofs.Ytbndgnbhmifefaa
