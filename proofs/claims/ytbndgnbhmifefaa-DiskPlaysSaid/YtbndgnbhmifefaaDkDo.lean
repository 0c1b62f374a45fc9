/- do: a deed, if nothing is told against it, and the power stays. Conditions: the disk stands where the pointer points; the deed's function serves. -/
import Derived.Test.YtbndgnbhmifefaaDkLook
namespace Go.Proofs.Ytbndgnbhmifefaa
open Go.RowKit Go.Proofs.YtbndgnbhmifefaaW.PrintWords
set_option linter.unusedVariables false
set_option linter.unusedSimpArgs false
theorem do_err (g : Nat) (e : Int) (fn : FuncId) (caps : Array Value) (w : World) (he : e ≠ 0) :
    Calls Try.prog 26 #[.pointer (some ⟨g, 0, none⟩), .int .i64 e, .func (.func fn) #[] caps] w fun x w' => x = .returned (.int .i64 e) ∧ w = w' := by
  have e1 : (e != 0) = true := bne_iff_ne.2 he
  clear he
  go_enter Try.func26, Try.ntmps26
  go_wp2
  go_ret
  exact ⟨rfl, rfl⟩
theorem do_down (g : Nat) (fn : FuncId) (caps : Array Value) (down : Bool) (w : World) (h2 : w.cell? ⟨g, 2, none⟩ = some (.int .i64 0)) (h3 : w.cell? ⟨g, 3, none⟩ = some (.bool down)) (f2 : w.frozen? ⟨g, 2, none⟩ = false) (f3 : w.frozen? ⟨g, 3, none⟩ = false) :
    Calls Try.prog 26 #[.pointer (some ⟨g, 0, none⟩), .int .i64 0, .func (.func fn) #[] caps] w fun x w' => x = .returned (.int .i64 12) ∧ w' = (w.setCell ⟨g, 3, none⟩ (.bool true)).setCell ⟨g, 2, none⟩ (.int .i64 (-1)) := by
  go_enter Try.func26, Try.ntmps26
  go_wp2
  go_ret
  exact ⟨rfl, rfl⟩
theorem do_some (g : Nat) (fn : FuncId) (caps : Array Value) (armed : Int) (w : World) (Post : World → Prop) (hf : ∀ W, Sem.run Try.prog (callFunc fn caps) W = .ok (.enter fn caps) W) (ha : 0 < armed) (hb : armed ≤ 9223372036854775807) (h2 : w.cell? ⟨g, 2, none⟩ = some (.int .i64 armed)) (f2 : w.frozen? ⟨g, 2, none⟩ = false)
    (hC : Calls Try.prog fn caps (w.setCell ⟨g, 2, none⟩ (.int .i64 (armed - 1))) fun x w' => x = .returned (.tuple #[]) ∧ Post w') :
    Calls Try.prog 26 #[.pointer (some ⟨g, 0, none⟩), .int .i64 0, .func (.func fn) #[] caps] w fun x w' => x = .returned (.int .i64 0) ∧ Post w' := by
  have HC := Aside0.mk hC
  clear hC
  go_enter Try.func26, Try.ntmps26
  go_wp2_with ((with_reducible refine HC.out.mono ?_); rintro x w1 ⟨rfl, hp⟩)
  go_ret
  exact ⟨rfl, hp⟩
theorem do_none (g : Nat) (fn : FuncId) (caps : Array Value) (armed : Int) (w : World) (Post : World → Prop) (hf : ∀ W, Sem.run Try.prog (callFunc fn caps) W = .ok (.enter fn caps) W) (ha : armed < 0) (h2 : w.cell? ⟨g, 2, none⟩ = some (.int .i64 armed))
    (hC : Calls Try.prog fn caps w fun x w' => x = .returned (.tuple #[]) ∧ Post w') :
    Calls Try.prog 26 #[.pointer (some ⟨g, 0, none⟩), .int .i64 0, .func (.func fn) #[] caps] w fun x w' => x = .returned (.int .i64 0) ∧ Post w' := by
  have HC := Aside0.mk hC
  have e0 : (armed == 0) = false := beq_eq_false_iff_ne.2 (by omega)
  clear hC
  go_enter Try.func26, Try.ntmps26
  go_wp2_with ((with_reducible refine HC.out.mono ?_); rintro x w1 ⟨rfl, hp⟩)
  go_ret
  exact ⟨rfl, hp⟩
end Go.Proofs.Ytbndgnbhmifefaa
