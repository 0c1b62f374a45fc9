/- What Take tells of whatever bytes. Conditions: the slice reads as bytes; at most 100000 of them. -/
import Derived.Test.YtjkgafijifkfcaaPuts
namespace Go.Proofs.Ytjkgafijifkfcaa
open Go.RowKit Go.Proofs.YtjkgafijifkfcaaW.PrintWords
set_option linter.unusedVariables false
set_option linter.unusedSimpArgs false

/-- Take of whatever bytes: a row and a number; where it is 0, the row has four bytes fewer. -/
def TookAny (w : World) (n : Nat) (e : Ending) (w' : World) : Prop :=
  ∃ (A : Option Addr) (m c : Nat) (r : Int), e = .returned (.tuple #[.slice A m c, .int .i64 r]) ∧ (r = 0 ∧ m + 4 = n ∨ ¬ r = 0) ∧ (n < 4 → r = 4) ∧ Below w.heap.size w w'
theorem take_tells (A : Option Addr) (c n : Nat) (l : List Int) (w : World) (hr : Kd.C (Kd.int .u8) w A n l) (hc : n ≤ c) (hb : Crc.Bytes l) (hl : n ≤ 100000) :
    Calls Try.prog 33 #[.slice A n c] w (TookAny w n) := by
  obtain rfl := (C_cells hr).1
  by_cases h : 4 ≤ l.length
  · cases hg : goodB l with
    | true =>
      refine (take_good A c l w hr hc hb h hl hg).mono fun e w' ⟨v, he, hR, hB⟩ => ?_
      obtain ⟨A1, c1, rfl, hc1, hC1⟩ := Kd.R_reads hR
      exact ⟨A1, _, c1, 0, he, .inl ⟨rfl, by unfold own; simp; omega⟩, by omega, hB⟩
    | false =>
      refine (take_bad A c l w hr hc hb h hl hg).mono fun e w' ⟨v, he, hR, hB⟩ => ?_
      obtain ⟨A1, c1, rfl, hc1, hC1⟩ := Kd.R_reads hR
      exact ⟨A1, _, c1, 3, he, .inr (by omega), by omega, hB⟩
  · exact (take_short A c l w (by omega)).mono fun e w' ⟨he, hB⟩ => ⟨none, 0, 0, 4, he, .inr (by omega), fun _ => rfl, by rw [← hB]; exact Below.refl _ _⟩

theorem kept_reads {W : World} {base : Nat} {A : Option Addr} {n c : Nat} {l : List Int} (h : (Kd.int .u8).R 5 W base (fun _ => True) (.slice A n c) l) : Kd.C (Kd.int .u8) W A n l := by
  obtain ⟨A1, c1, he, hc, hC⟩ := Kd.R_reads h
  cases he
  exact hC
end Go.Proofs.Ytjkgafijifkfcaa
