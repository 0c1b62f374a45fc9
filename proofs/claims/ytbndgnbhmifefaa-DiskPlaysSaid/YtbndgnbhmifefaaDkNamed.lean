/- disk.named at texts of ASCII bytes; slices.ContainsFunc over it. Conditions: as told. -/
import Derived.Test.YtbndgnbhmifefaaDkMap
import Derived.Test.YtbndgnbhmifefaaShelf
import Derived.Laws.RangeString
import Derived.Laws.RangeAny
namespace Go.Proofs.Ytbndgnbhmifefaa
open Go.RowKit Go.Proofs.YtbndgnbhmifefaaW.PrintWords
set_option linter.unusedVariables false
set_option linter.unusedSimpArgs false
def signs : ByteArray := ⟨#[97, 98, 99, 100, 101, 102, 103, 104, 105, 106, 107, 108, 109, 110, 111, 112, 113, 114, 115, 116, 117, 118, 119, 120, 121, 122, 48, 49, 50, 51, 52, 53, 54, 55, 56, 57, 46, 45]⟩
def signB (c : UInt8) : Bool := decide (0 ≤ Lib.indexByte signs.data.toList c)
def namedB (s : ByteArray) : Bool := s.data.toList.all signB && decide (1 ≤ s.size) && decide (s.size ≤ 20)
def NamedOk (s : ByteArray) : Prop := ∀ W : World, Calls Try.prog 44 #[.string s] W fun e w' => e = .returned (.bool (namedB s)) ∧ Below W.heap.size W w'
theorem cr_calls (c : UInt8) (b : Bool) (hc : c.toNat < 128) (hb : signB c = b) (W : World) : Calls Try.prog 55 #[.string ⟨#[97, 98, 99, 100, 101, 102, 103, 104, 105, 106, 107, 108, 109, 110, 111, 112, 113, 114, 115, 116, 117, 118, 119, 120, 121, 122, 48, 49, 50, 51, 52, 53, 54, 55, 56, 57, 46, 45]⟩, .int .i32 (c.toNat : Int)] W fun e w' => e = .returned (.bool b) ∧ W = w' := by
  refine (Try.strings_ContainsRune_ascii signs (c.toNat : Int) W (by omega) (by omega)).mono ?_
  rintro e w' ⟨rfl, rfl⟩
  refine ⟨?_, rfl⟩
  rw [← hb]
  unfold signB
  simp
def okTo (s : ByteArray) (pos : Nat) : Prop := (s.data.toList.take pos).all signB = true
theorem okTo_zero (s : ByteArray) : okTo s 0 := by simp [okTo]
theorem take_snocB (s : ByteArray) (k : Nat) (h : k < s.size) : s.data.toList.take (k + 1) = s.data.toList.take k ++ [s[k]] := by
  rw [List.take_succ_eq_append_getElem (by simpa using h)]; rfl
theorem okTo_succ (s : ByteArray) (k : Nat) (h : k < s.size) (h1 : okTo s k) (h2 : signB s[k] = true) : okTo s (k + 1) := by
  unfold okTo at *
  rw [take_snocB s k h, List.all_append, h1]
  simp [h2]
theorem named_bad (s : ByteArray) (k : Nat) (h : k < s.size) (h2 : signB s[k] = false) : namedB s = false := by
  unfold namedB
  have : s.data.toList.all signB = false := by
    rw [List.all_eq_false]
    exact ⟨s[k], by have : s[k] = s.data.toList[k]'(by simpa using h) := rfl; rw [this]; exact List.getElem_mem _, by simp [h2]⟩
  rw [this]; rfl
theorem named_end (s : ByteArray) (h : okTo s s.size) : namedB s = (decide (1 ≤ s.size) && decide (s.size ≤ 20)) := by
  unfold namedB
  unfold okTo at h
  rw [List.take_of_length_le (by simp)] at h
  rw [h]; rfl
theorem iter_below (w : World) (s : ByteArray) (pos : Nat) : Below w.heap.size w (w.iter s pos) := below_alloc (Below.refl _ _) _
set_option maxRecDepth 100000 in
set_option maxHeartbeats 4000000 in
theorem named_ascii (s : ByteArray) (hs : s.size ≤ 9223372036854775807) (ha : ∀ (i : Nat) (h : i < s.size), (s[i]'h).toNat < 128) : NamedOk s := by
  intro w
  have HA := Aside0.mk ha
  clear ha
  go_enter Try.func44, Try.ntmps44
  go_wp2
  go_loopw [4] (fun v w' => ∃ pos : Nat, w' = w.iter s pos ∧ pos ≤ s.size ∧ okTo s pos) (fun _ w' => s.size - w'.iterPos w.heap.size)
  case atStart => exact ⟨0, rfl, by omega, okTo_zero s⟩
  case round =>
    obtain ⟨pos, rfl, hp, hok⟩ := hrel
    have HOk := Aside0.mk hok
    clear hok
    by_cases hlt : pos < s.size
    · have hnx : ∀ ty, (Instr.next (.pointer (some ⟨w.heap.size, 0, none⟩)) true ty).run Try.prog (w.iter s pos) = _ := fun ty => run_next_ascii w s pos ty hlt (HA.out pos hlt)
      have HL := HA.out pos hlt
      cases hb : signB (s[pos]'hlt)
      · have HC := Aside0.mk (fun W => cr_calls (s[pos]'hlt) false HL hb W)
        have HN := Aside0.mk (named_bad s pos hlt hb)
        clear hb
        go_wp2_with (go_at_call 55; (with_reducible refine (HC.out _).mono ?_); rintro e w1 ⟨rfl, rfl⟩)
        go_ret
        exact ⟨by rw [HN.out]; rfl, iter_below _ _ _⟩
      · have HC := Aside0.mk (fun W => cr_calls (s[pos]'hlt) true HL hb W)
        have HN := Aside0.mk (okTo_succ s pos hlt HOk.out hb)
        clear hb
        go_wp2_with (go_at_call 55; (with_reducible refine (HC.out _).mono ?_); rintro e w1 ⟨rfl, rfl⟩)
        go_roundw
        case rel => exact ⟨pos + 1, rfl, by omega, HN.out⟩
        case measure => simp; omega
    · obtain rfl : pos = s.size := by omega
      have hnx : ∀ ty, (Instr.next (.pointer (some ⟨w.heap.size, 0, none⟩)) true ty).run Try.prog (w.iter s s.size) = _ := fun ty => run_next_end w s s.size ty hlt
      have HN := Aside0.mk (named_end s HOk.out)
      by_cases he : s.size = 0
      · have hl : s.data.toList = [] := List.eq_nil_of_length_eq_zero (by simpa using he)
        have he' : s.toList.isEmpty = true := by rw [ByteArray.toList_eq, hl]; rfl
        have hz : s.size = 0 := he
        clear hl
        have HZ := Aside0.mk hz
        clear he hz
        go_wp2
        go_ret
        exact ⟨by rw [HN.out, HZ.out]; rfl, iter_below _ _ _⟩
      · have he' : s.toList.isEmpty = false := by
          rw [ByteArray.toList_eq]
          cases hl : s.data.toList with
          | nil => exact absurd (by have := congrArg List.length hl; simpa using this) he
          | cons _ _ => rfl
        have hz : 1 ≤ s.size := by omega
        have HZ := Aside0.mk (show namedB s = decide ((s.size : Int) ≤ 20) from by
          rw [HN.out, decide_eq_true hz, Bool.true_and]
          by_cases h : s.size ≤ 20
          · rw [decide_eq_true h, decide_eq_true (by omega)]
          · rw [decide_eq_false h, decide_eq_false (by omega)])
        clear he
        go_wp2
        go_ret
        exact ⟨by rw [HZ.out]; rfl, iter_below _ _ _⟩
end Go.Proofs.Ytbndgnbhmifefaa
