/- slices.Clone at rows of values and of columns: a row of the call's own with the same. Conditions: the slice reads so; its bytes are below 2^47. -/
import Derived.Test.YtapcoekakbbmcaaGreatDoorApiKinds
import Derived.Test.YtapcoekakbbmcaaGreatDoorProg
import Derived.WalkKit
import Derived.WalkSpells
namespace Go.Proofs.YtapcoekakbbmcaaGreatDoor
open Go.RowKit Go.Proofs.YtapcoekakbbmcaaGreatDoorW.PrintWords
set_option linter.unusedVariables false
set_option linter.unusedSimpArgs false

/-- a fresh row with l is answered -/
def FreshOf {α : Type} (d : Kd α) (e : Nat) (w : World) (l : List α) (x : Ending) (w' : World) : Prop := ∃ v, x = .returned v ∧ d.R e w' w.heap.size (fun _ => True) v l ∧ Below w.heap.size w w'
theorem infoVal : (Tryz.prog.info? 70).map (fun i => (i.zero, i.size, i.bytes)) = some (some (.agg #[.int .i64 0, .int .i64 0, .string ⟨#[]⟩]), kVal.sz, 32) := by kernel_rfl
theorem infoCol : (Tryz.prog.info? 28).map (fun i => (i.zero, i.size, i.bytes)) = some (some (.agg #[.string ⟨#[]⟩, .int .i64 0, .bool false]), kCol.sz, 32) := by kernel_rfl
theorem C_nil_of {α : Type} {d : Kd α} {w : World} {n : Nat} {l : List α} (h : d.C w none n l) : n = 0 ∧ l = [] := by
  have h0 : n = 0 := by
    rcases Nat.eq_zero_or_pos n with h1 | h1
    · exact h1
    · obtain ⟨ad, h2, _⟩ := h.2.2 h1
      cases h2
  exact ⟨h0, List.eq_nil_of_length_eq_zero (by rw [h.1, h0])⟩
theorem made0 {α : Type} (d : Kd α) (e : Nat) (w : World) : d.R e (w.alloc (.cells #[] e)) w.heap.size (fun _ => True) (.slice (some ⟨w.heap.size, 0, none⟩) 0 0) [] :=
  ⟨fun _ _ => trivial, [], World.ownsRow_made w #[] 0 (Nat.le_refl _) (by decide) (by simp), ⟨by simp, fun j p h => by simp at h⟩⟩

set_option maxHeartbeats 1000000 in
theorem cloneVal_calls (A : Option Addr) (n c : Nat) (l : List Val) (w : World) (hr : kVal.C w A n l) (hn : n * 32 ≤ 140737488355328) :
    Calls Tryz.prog 29 #[.slice A n c] w (FreshOf kVal 70 w l) := by
  have HR := Aside0.mk hr
  have hq : ∀ W : World, (binOp .eql 23 (.slice A n c) (.slice none 0 0)).run Tryz.prog W = .ok (.bool A.isNone) W := fun W => Lib.run_eql_slice_nil W 23 70 A n c 0 0 Tryz.underlying23
  cases A with
  | none =>
    obtain ⟨rfl, rfl⟩ := C_nil_of hr
    clear hr
    go_enter Tryz.func29, Tryz.ntmps29
    go_wp2
    go_ret
    exact ⟨_, rfl, Kd.R_nil _ _ _ _ _, Below.refl _ _⟩
  | some ad =>
    clear hr
    go_enter Tryz.func29, Tryz.ntmps29
    go_wp2_with (refine Kd.R_append_rows kVal (w0 := w) w.heap.size rfl (.tmp 5) (.tmp 6) 23 70 (.agg #[.int .i64 0, .int .i64 0, .string ⟨#[]⟩]) 32 rfl Tryz.underlying23 infoVal rfl (by decide) (by decide) _ [] l (some ad) n c (fun _ => True) (fun _ => False) rfl rfl (made0 kVal 70 w) (Kd.C_below HR.out (below_alloc (Below.refl _ _) _)) (fun x cs h => by obtain rfl := kVal_open h; exact kVal_mkM _ _ _ _) (fun k hk => hk.elim) (fun _ _ => trivial) (below_alloc (Below.refl _ _) _) (by simp) (by simp; omega) ?_; intro v1 w1 ho1 hb1 hg1 _)
    go_ret
    exact ⟨_, rfl, by assumption, by assumption⟩

set_option maxHeartbeats 1000000 in
theorem cloneCol_calls (A : Option Addr) (n c : Nat) (l : List Col) (w : World) (hr : kCol.C w A n l) (hn : n * 32 ≤ 140737488355328) :
    Calls Tryz.prog 30 #[.slice A n c] w (FreshOf kCol 28 w l) := by
  have HR := Aside0.mk hr
  have hq : ∀ W : World, (binOp .eql 24 (.slice A n c) (.slice none 0 0)).run Tryz.prog W = .ok (.bool A.isNone) W := fun W => Lib.run_eql_slice_nil W 24 28 A n c 0 0 Tryz.underlying24
  cases A with
  | none =>
    obtain ⟨rfl, rfl⟩ := C_nil_of hr
    clear hr
    go_enter Tryz.func30, Tryz.ntmps30
    go_wp2
    go_ret
    exact ⟨_, rfl, Kd.R_nil _ _ _ _ _, Below.refl _ _⟩
  | some ad =>
    clear hr
    go_enter Tryz.func30, Tryz.ntmps30
    go_wp2_with (refine Kd.R_append_rows kCol (w0 := w) w.heap.size rfl (.tmp 5) (.tmp 6) 24 28 (.agg #[.string ⟨#[]⟩, .int .i64 0, .bool false]) 32 rfl Tryz.underlying24 infoCol rfl (by decide) (by decide) _ [] l (some ad) n c (fun _ => True) (fun _ => False) rfl rfl (made0 kCol 28 w) (Kd.C_below HR.out (below_alloc (Below.refl _ _) _)) (fun x cs h => by obtain rfl := kCol_open h; exact kCol_mkM _ _ _ _) (fun k hk => hk.elim) (fun _ _ => trivial) (below_alloc (Below.refl _ _) _) (by simp) (by simp; omega) ?_; intro v1 w1 ho1 hb1 hg1 _)
    go_ret
    exact ⟨_, rfl, by assumption, by assumption⟩
end Go.Proofs.YtapcoekakbbmcaaGreatDoor
