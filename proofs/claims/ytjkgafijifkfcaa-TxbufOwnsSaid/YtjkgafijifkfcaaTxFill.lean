/- Puts of many events in a row, and what is told of them. Conditions: the buffer stands where the pointer points. -/
import Derived.Test.YtjkgafijifkfcaaTxLives
import Derived.Test.YtjkgafijifkfcaaWMore
namespace Go.Proofs.Ytjkgafijifkfcaa
open Go.RowKit Go.Proofs.YtjkgafijifkfcaaW.PrintWords Go.Proofs.YtjkgafijifkfcaaW.PrintMore
set_option linter.unusedVariables false
set_option linter.unusedSimpArgs false
/-- the first of a row of events, as many as go in -/
def fillL (f : Nat → Ev) (L k : Nat) : List Ev := (List.range (min k L)).map f
theorem fillL_length (f : Nat → Ev) (L k : Nat) : (fillL f L k).length = min k L := by simp [fillL]
theorem fillL_get (f : Nat → Ev) (L k i : Nat) (h : i < min k L) : rdEv (fillL f L k) i = f i := by
  unfold rdEv fillL
  rw [List.getD_eq_getElem?_getD]
  simp [h]
theorem fill_step (f : Nat → Ev) (L k : Nat) (num : Int) (hn : num ≠ -1) (hk : (f k).kind = 3 ∨ (f k).kind = 4 ∨ (f k).kind = 5 ∨ (f k).kind = 6) :
    putR L num (fillL f L k) (f k) = ⟨num, fillL f L (k + 1), [], false, if k < L then 0 else 13⟩ := by
  unfold putR
  rw [if_neg (by omega), if_pos hk, if_neg hn, fillL_length]
  by_cases h : k < L
  · rw [if_neg (by omega), if_pos h]
    unfold fillL
    rw [Nat.min_eq_left (by omega), Nat.min_eq_left (by omega), List.range_succ, List.map_append]
    rfl
  · rw [if_pos (by omega), if_neg h]
    unfold fillL
    rw [Nat.min_eq_right (by omega), Nat.min_eq_right (by omega)]
theorem put_fill (B g : Nat) (L k : Nat) (num : Int) (kd ck : Int) (tab ct : ByteArray) (nf : Nat → Int) (w : World) (hn : num ≠ -1) (hk : kd = 3 ∨ kd = 4 ∨ kd = 5 ∨ kd = 6)
    (hb : Buf B w g L num (fillL (fun i => plainEv kd (nf i) tab ck ct) L k)) (hB : B ≤ w.heap.size) (hL : L ≤ 1000000) :
    Calls Try.prog 22 #[.pointer (some ⟨g, 0, none⟩), .agg #[.int .i64 kd, .int .i64 (nf k), .string tab, .slice none 0 0, .slice none 0 0, .int .i64 ck, .string ct, .slice none 0 0, .int .i64 0, .string ⟨#[]⟩, .int .i64 0, .bool false]] w (Told B g w L ⟨num, fillL (fun i => plainEv kd (nf i) tab ck ct) L (k + 1), [], false, if k < L then 0 else 13⟩) :=
  put_plain B g L num _ kd (nf k) tab ck ct w _ (fill_step (fun i => plainEv kd (nf i) tab ck ct) L k num hn hk) hb hB (by rw [fillL_length]; omega)
theorem put_commit_plain (lim num : Int) (xs : List Ev) (tab ct : ByteArray) (ck : Int) (hn : num ≠ -1) : putR lim num xs (plainEv 7 num tab ck ct) = ⟨-1, [], xs, true, 0⟩ := by simp [putR, plainEv, hn]
theorem put_abort_plain (lim num : Int) (xs : List Ev) (tab ct : ByteArray) (ck : Int) (hn : num ≠ -1) : putR lim num xs (plainEv 8 num tab ck ct) = ⟨-1, [], [], false, 0⟩ := by simp [putR, plainEv, hn]
theorem txnew_pos (lim : Int) (w : World) (h : 1 ≤ lim) : Calls Try.prog 21 #[.int .i64 lim] w fun e w' => e = .returned (.pointer (some ⟨w.heap.size, 0, none⟩)) ∧ w' = w.alloc (.cells #[.int .i64 lim, .int .i64 (-1), .slice none 0 0] 73) := by
  have := txnew_calls lim w
  rwa [show max lim 1 = lim from by omega] at this
theorem buf_len {B g : Nat} {w : World} {lim num : Int} {xs : List Ev} (h : Buf B w g lim num xs) : Calls Try.prog 25 #[.pointer (some ⟨g, 0, none⟩)] w fun e w' => e = .returned (.int .i64 xs.length) ∧ w = w' := by
  obtain ⟨A, c, hk, _⟩ := h
  exact len_calls g lim num A xs.length c w hk
theorem told_row {B g : Nat} {w : World} {lim : Int} {p : PR} {e : Ending} {w' : World} (h : Told B g w lim p e w') : ∃ A c, e = .returned (.tuple #[.slice A p.out.length c, .bool p.t, .int .i64 p.r]) ∧ Kd.C kEv w' A p.out.length p.out ∧ Buf B w' g lim p.num p.xs ∧ FrameB B g w w' := by
  obtain ⟨v, h1, h2, h3, h4⟩ := h
  obtain ⟨A, c, rfl, _, hC⟩ := Kd.R_reads h2
  exact ⟨A, c, h1, hC, h3, h4⟩
theorem Buf.cast {B g : Nat} {w : World} {lim lim' num : Int} {xs xs' : List Ev} (h : Buf B w g lim num xs) (e : lim = lim') (e' : xs = xs') : Buf B w g lim' num xs' := by
  subst e; subst e'; exact h
theorem told_fill {B g L j : Nat} {w : World} {lim num r : Int} {ys : List Ev} {f : Nat → Ev} {t : Bool} {e : Ending} {w' : World} (h : Told B g w lim ⟨num, ys, fillL f L j, t, r⟩ e w') : ∃ A c, ∃ q : Nat, q = min j L ∧ e = .returned (.tuple #[.slice A q c, .bool t, .int .i64 r]) ∧ (∀ i, i < q → ∃ ad, A = some ad ∧ w'.cell? ⟨(ad.add (i * 12)).block, (ad.add (i * 12)).off + 1, none⟩ = some (.int .i64 (f i).num) ∧ w'.cell? ⟨(ad.add (i * 12)).block, (ad.add (i * 12)).off + 2, none⟩ = some (.string (f i).table)) ∧ Buf B w' g lim num ys ∧ FrameB B g w w' := by
  obtain ⟨A, c, he, hC, hb, hf⟩ := told_row h
  refine ⟨A, c, min j L, rfl, by rw [he]; simp only [fillL_length], fun i hi => ?_, hb, hf⟩
  obtain ⟨ad, _, _, _, _, _, _, eA, _, d1, d2, _⟩ := at_Ev hC i (by simpa [fillL_length] using hi)
  rw [fillL_get _ _ _ _ hi] at d1 d2
  exact ⟨ad, eA, d1, d2⟩
theorem min_eq (j L q : Nat) (hq : q = min j L) (ats : Array TypeId) (ty : TypeId) : Builtin.min_ ats ty #[.int .i64 j, .int .i64 L] = pure (.int .i64 q) := by
  subst hq
  rw [min_two]
  simp only [min2_int, pure_bind]
  congr 2
  split <;> omega
theorem buf_lenq {B g q : Nat} {w : World} {lim num : Int} {xs : List Ev} (h : Buf B w g lim num xs) (e : xs.length = q) : Calls Try.prog 25 #[.pointer (some ⟨g, 0, none⟩)] w fun e w' => e = .returned (.int .i64 q) ∧ w = w' := by
  have := buf_len h
  rwa [e] at this
def signed (a : Int) : Int := if a < 0 then -(a + 1) else a
theorem signed_range (a : Int) (h : -9223372036854775808 ≤ a) (h' : a ≤ 9223372036854775807) : 0 ≤ signed a ∧ signed a ≤ 9223372036854775807 := by unfold signed; split <;> omega
end Go.Proofs.Ytjkgafijifkfcaa
