/- Rows of bytes: append. Conditions: the slices read as bytes; lengths below 2^47. -/
import Derived.Test.YtmdofdaiepilbaaGreatDoorWMore
import Derived.Test.YtmdofdaiepilbaaGreatDoorWShare
import Derived.Test.YtmdofdaiepilbaaGreatDoorWN
import Derived.Test.YtmdofdaiepilbaaGreatDoorWNEv
import Derived.Test.YtmdofdaiepilbaaGreatDoorWZeros
import Derived.Test.YtmdofdaiepilbaaGreatDoorProg
import Derived.WalkKit
import Derived.WalkSpells
import Derived.Deep.Onto
namespace Go.Proofs.YtmdofdaiepilbaaGreatDoor
open Go.RowKit Go.Proofs.YtmdofdaiepilbaaGreatDoorW.PrintWords
set_option linter.unusedVariables false
set_option linter.unusedSimpArgs false
theorem info5 : (Tryz.prog.info? 5).map (fun i => (i.zero, i.size, i.bytes)) = some (some (.int .u8 0), (Kd.int .u8).sz, 1) := by kernel_rfl
section
variable {ops : Array Oper} {o : Oper} {a : Act} {Q : Exit → Act → World → Prop} {Kc : Act → World → Prop} {rest : List Oper}

/-- one byte more, where the region draws its order -/
theorem app1_step {w0 W : World} (base : Nat) (hw : Region.wanted o (yielded ops a.tmps) = true) (s x : Operand)
    (ho : o.op = .call { callee := .builtin .append, args := #[s, x], argTypes := #[26, 26] }) (v : Value) (xs : List Int) (p : Int)
    (hs : a.eval s = v) (hx : a.eval x = .slice (some ⟨W.heap.size, 0, none⟩) 1 1)
    (HO : (Kd.int .u8).R 5 W base (fun _ => True) v xs) (HB : Below base w0 W) (hbase : base ≤ W.heap.size) (hl : xs.length + 1 ≤ 140737488355328)
    (h : ∀ v1 w1, (Kd.int .u8).R 5 w1 base (fun _ => True) v1 (xs ++ [p]) → Below base w0 w1 → W.grownBy w1 v.ownBlock → Kc (a.put o.dst v1) w1) :
    if Region.wanted o (yielded ops a.tmps) = true then Oper.wp Tryz.prog o a (W.alloc (.cells #[.int .u8 p] 5)) Kc Q else Kc (a.put o.dst undef) (W.alloc (.cells #[.int .u8 p] 5)) :=
  Kd.R_append_step (Kd.int .u8) (w0 := w0) (W := W) base hw s x 26 5 (.int .u8 0) 1 ho Tryz.underlying26 info5 rfl (by decide) (by decide) v xs p [.int .u8 p] (fun _ => True) (fun k => some k ≠ v.ownBlock) hs hx rfl (fun k hk => ⟨trivial, hk⟩) (fun _ _ => trivial) HO HB hbase (by omega)
    (fun v1 w1 h1 h2 h3 _ => h v1 w1 h1 h2 h3)

/-- one byte more, elsewhere -/
theorem app1 {w0 W : World} (base : Nat) (hgd : o.guard = none) (s x : Operand)
    (ho : o.op = .call { callee := .builtin .append, args := #[s, x], argTypes := #[26, 26] }) (v : Value) (xs : List Int) (p : Int)
    (hs : a.eval s = v) (hx : a.eval x = .slice (some ⟨W.heap.size, 0, none⟩) 1 1)
    (HO : (Kd.int .u8).R 5 W base (fun _ => True) v xs) (HB : Below base w0 W) (hbase : base ≤ W.heap.size) (hl : xs.length + 1 ≤ 140737488355328)
    (h : ∀ v1 w1, (Kd.int .u8).R 5 w1 base (fun _ => True) v1 (xs ++ [p]) → Below base w0 w1 → W.grownBy w1 v.ownBlock → wpList Tryz.prog ops Q rest (a.put o.dst v1) w1) :
    wpList Tryz.prog ops Q (o :: rest) a (W.alloc (.cells #[.int .u8 p] 5)) :=
  Kd.R_append (Kd.int .u8) (w0 := w0) (W := W) base hgd s x 26 5 (.int .u8 0) 1 ho Tryz.underlying26 info5 rfl (by decide) (by decide) v xs p [.int .u8 p] (fun _ => True) (fun k => some k ≠ v.ownBlock) hs hx rfl (fun k hk => ⟨trivial, hk⟩) (fun _ _ => trivial) HO HB hbase (by omega)
    (fun v1 w1 h1 h2 h3 _ => h v1 w1 h1 h2 h3)

/-- a row of bytes more -/
theorem appN {w0 W : World} (base : Nat) (hgd : o.guard = none) (s x : Operand)
    (ho : o.op = .call { callee := .builtin .append, args := #[s, x], argTypes := #[26, 26] }) (v : Value) (xs ys : List Int) (A : Option Addr) (m c : Nat)
    (hs : a.eval s = v) (hx : a.eval x = .slice A m c)
    (HO : (Kd.int .u8).R 5 W base (fun _ => True) v xs) (HR : (Kd.int .u8).C W A m ys) (HB : Below base w0 W) (hbase : base ≤ W.heap.size) (hl : xs.length + m ≤ 140737488355328)
    (h : ∀ v1 w1, (Kd.int .u8).R 5 w1 base (fun _ => True) v1 (xs ++ ys) → Below base w0 w1 → W.grownBy w1 v.ownBlock → wpList Tryz.prog ops Q rest (a.put o.dst v1) w1) :
    wpList Tryz.prog ops Q (o :: rest) a W :=
  Kd.R_append_row (Value.int .u8) 0 (h1 := fun _ => rfl) (w0 := w0) base hgd s x 26 5 (.int .u8 0) 1 ho Tryz.underlying26 info5 rfl (by decide) v xs ys A m c (fun _ => True) hs hx (fun _ _ => trivial) HO HR HB hbase (by omega)
    (fun v1 w1 h1 h2 h3 _ => h v1 w1 h1 h2 h3)
end

theorem C_cells {w : World} {A : Option Addr} {n : Nat} {l : List Int} (h : Kd.C (Kd.int .u8) w A n l) : l.length = n ∧ n ≤ 9223372036854775807 ∧ (0 < n → ∃ ad, A = some ad ∧ ∀ j, j < n → w.cell? (ad.add j) = some (.int .u8 (l.getD j 0))) :=
  Kd.reads_of_C (enc := Value.int .u8) (d := (0 : Int)) (h1 := fun _ => rfl) h
def rdL {α : Type} (xs : List (List α)) (i : Nat) : List α := xs.getD i []
theorem at_slice {α : Type} {d : Kd α} {e : Nat} {w : World} {A : Option Addr} {n : Nat} {xs : List (List α)} (h : Kd.C (Kd.slice e d) w A n xs) (i : Nat) (h1 : i < n) : ∃ ad A0 c0, A = some ad ∧ w.cell? (ad.add i) = some (.slice A0 (rdL xs i).length c0) ∧ (rdL xs i).length ≤ c0 ∧ d.C w A0 (rdL xs i).length (rdL xs i) := by
  obtain ⟨ad, c, e, _, hK, hc0⟩ := Kd.C_get h ([] : List α) (i : Int) (by omega) (by omega)
  have hc : ∀ j u, c[j]? = some u → w.cell? (ad.add ((i : Int).toNat * 1 + j)) = some u := hc0
  obtain ⟨A0, c0, rfl, l0, g0⟩ := hK
  exact ⟨ad, A0, c0, e, by have hq := hc 0 _ rfl; rwa [Nat.mul_one, Nat.add_zero, Int.toNat_natCast] at hq, l0, g0⟩

/-- a fresh row with the bytes l is answered -/
def Fresh (w : World) (l : List Int) (e : Ending) (w' : World) : Prop := ∃ v, e = .returned v ∧ Kd.R (Kd.int .u8) 5 w' w.heap.size (fun _ => True) v l ∧ Below w.heap.size w w'

theorem own_made0 (w : World) : (Kd.int .u8).R 5 (w.alloc (.cells #[] 5)) w.heap.size (fun _ => True) (.slice (some ⟨w.heap.size, 0, none⟩) 0 0) [] :=
  Kd.R_of_own (World.ownsRow_made w #[] 0 (Nat.le_refl _) (by decide) rfl) (fun _ _ => trivial)
abbrev kByt : Kd Int := Kd.int .u8
section
variable {ops : Array Oper} {o : Oper} {a : Act} {Q : Exit → Act → World → Prop} {rest : List Oper}
/-- one byte more, behind a slice without spare room -/
theorem appG {W : World} (hgd : o.guard = none) (s x : Operand)
    (ho : o.op = .call { callee := .builtin .append, args := #[s, x], argTypes := #[26, 26] }) (A : Option Addr) (n : Nat) (l : List Int) (p : Int)
    (hs : a.eval s = .slice A n n) (hx : a.eval x = .slice (some ⟨W.heap.size, 0, none⟩) 1 1)
    (hC : kByt.C W A n l) (hl : n + 1 ≤ 140737488355328)
    (h : ∀ v1 w1, kByt.R 5 w1 W.heap.size (fun _ => True) v1 (l ++ [p]) → Below W.heap.size W w1 → wpList Tryz.prog ops Q rest (a.put o.dst v1) w1) :
    wpList Tryz.prog ops Q (o :: rest) a (W.alloc (.cells #[.int .u8 p] 5)) := by
  obtain ⟨i0, hi, hz0, hz1, hz2⟩ := info_parts info5
  obtain ⟨hln, _, hcell⟩ := C_cells hC
  subst hln
  have hb : Below W.heap.size W (W.alloc (.cells #[.int .u8 p] 5)) := (Below.refl _ _).alloc (Nat.le_refl _) _
  refine wpList_append_grows (W.alloc (.cells #[.int .u8 p] 5)) hgd s x 26 ho 5 i0 (.int .u8 0) 1 1 Tryz.underlying26 hi hz0 hz1 hz2 rfl (by decide) A l.length l.length (encs (Value.int .u8) l) hs ?_ (by simp [encs]) ?_ ⟨W.heap.size, 0, none⟩ 1 1 [.int .u8 p] hx rfl (cell_one_new _ _ _) (by simp [Value.oneCell']) (by omega) (by unfold maxLen; omega) (by omega) ?_
  · intro hA
    subst hA
    cases l with
    | nil => exact ⟨rfl, rfl⟩
    | cons a l => obtain ⟨ad, h4, _⟩ := hcell (by simp); cases h4
  · intro b hA j u hj
    subst hA
    have hjl : j < l.length := by simpa [encs] using (List.getElem?_eq_some_iff.1 hj).1
    obtain ⟨ad, h4, h5⟩ := hcell (by omega)
    cases h4
    rw [hb.cell (p := b.add j) (by
      have h6 := h5 j hjl
      unfold World.cell? at h6
      by_cases hlt : (b.add j).block < W.heap.size
      · exact hlt
      · rw [Array.getElem?_eq_none (by omega)] at h6
        cases h6), h5 j hjl]
    simp [encs, List.getElem?_eq_getElem hjl] at hj
    subst hj
    simp [List.getD, List.getElem?_eq_getElem hjl]
  · intro v1 w1 hown hgr
    have hsz : (W.alloc (.cells #[.int .u8 p] 5)).heap.size = W.heap.size + 1 := by simp
    refine h v1 w1 (Kd.R_of_own (enc := Value.int .u8) (h1 := fun _ => rfl) ?_ (fun _ _ => trivial)) (hb.grown hgr (by rw [hsz]; omega) (fun k e => by cases e))
    have := World.ownsRow.mono hown (base' := W.heap.size) (by rw [hsz]; omega)
    simpa [encs] using this
end
end Go.Proofs.YtmdofdaiepilbaaGreatDoor
