/- disk.named at every text. -/
import Derived.Test.YtbndgnbhmifefaaDkNamed
import Derived.Test.YtbndgnbhmifefaaRuneHigh
namespace Go.Proofs.Ytbndgnbhmifefaa
open Go.RowKit Go.Proofs.YtbndgnbhmifefaaW.PrintWords
set_option linter.unusedVariables false
set_option linter.unusedSimpArgs false
theorem ascii_of_all {S : ByteArray} (h : S.data.toList.all (fun b => decide (b.toNat < 128)) = true) : AsciiS S := fun i hi => by
  have hi' : i < S.data.toList.length := by simpa using hi
  have := List.all_eq_true.1 h (S.data.toList[i]) (List.getElem_mem hi')
  exact of_decide_eq_true this
theorem signs_ascii : AsciiS signs := ascii_of_all (by decide)
theorem index_high (S : ByteArray) (R : Int) (w : World) (hS : AsciiS S) (hs4 : 4 ≤ S.size) (hsm : S.size ≤ 1000000) (h0 : 128 ≤ R) : Calls Try.prog 59 #[.string S, .int .i32 R] w (RuneNone w) := by
  by_cases h1 : R = 65533
  · subst h1
    exact index_error S w hS
  · cases hv : Lib.validRune R
    · exact index_not S R w h0 h1 hv
    · exact index_valid S R w hS hs4 hsm h0 h1 hv
theorem contains_high (S : ByteArray) (R : Int) (w : World) (hS : AsciiS S) (hs4 : 4 ≤ S.size) (hsm : S.size ≤ 1000000) (h0 : 128 ≤ R) : Calls Try.prog 55 #[.string S, .int .i32 R] w fun e w' => e = .returned (.bool false) ∧ Below w.heap.size w w' := by
  have H := Aside0.mk (index_high S R w hS hs4 hsm h0)
  clear hS
  go_enter Try.func55, Try.ntmps55
  go_wp2_with (go_at_call 59; (with_reducible refine H.out.mono ?_); rintro e w1 ⟨rfl, hb1⟩)
  go_ret
  exact ⟨rfl, hb1⟩
theorem sign_high {c : UInt8} (h : 128 ≤ c.toNat) : signB c = false := by
  unfold signB
  rw [indexByte_high h (fun b hb => by
    obtain ⟨i, hi, rfl⟩ := List.mem_iff_getElem.1 hb
    exact signs_ascii i (by simpa using hi))]
  rfl
set_option maxRecDepth 100000 in
set_option maxHeartbeats 4000000 in
theorem named_all (s : ByteArray) (hs : s.size ≤ 9223372036854775807) : NamedOk s := by
  intro w
  go_enter Try.func44, Try.ntmps44
  go_wp2
  go_loopw [4] (fun v w' => ∃ pos : Nat, w' = w.iter s pos ∧ pos ≤ s.size ∧ okTo s pos) (fun _ w' => s.size - w'.iterPos w.heap.size)
  case atStart => exact ⟨0, rfl, by omega, okTo_zero s⟩
  case round =>
    obtain ⟨pos, rfl, hp, hok⟩ := hrel
    have HOk := Aside0.mk hok
    clear hok
    by_cases hlt : pos < s.size
    · by_cases HL : (s[pos]'hlt).toNat < 128
      · have hnx : ∀ ty, (Instr.next (.pointer (some ⟨w.heap.size, 0, none⟩)) true ty).run Try.prog (w.iter s pos) = _ := fun ty => run_next_ascii w s pos ty hlt HL
        cases hb : signB (s[pos]'hlt)
        · have HC := Aside0.mk (fun W => cr_calls (s[pos]'hlt) false HL hb W)
          have HN := Aside0.mk (named_bad s pos hlt hb)
          clear hb
          go_wp2_with (go_at_call 55; (with_reducible refine (HC.out _).mono ?_); rintro e w1 ⟨rfl, rfl⟩)
          go_ret
          exact ⟨by rw [HN.out]; rfl, iter_below _ _ _⟩
        · have HC := Aside0.mk (fun W => cr_calls (s[pos]'hlt) true HL hb W)
          have HN := Aside0.mk (okTo_succ s pos hlt HOk.out hb)
          clear hb
          go_wp2_with (go_at_call 55; (with_reducible refine (HC.out _).mono ?_); rintro e w1 ⟨rfl, rfl⟩)
          go_roundw
          case rel => exact ⟨pos + 1, rfl, by omega, HN.out⟩
          case measure => simp; omega
      · have hh : 128 ≤ (s[pos]'hlt).toNat := by omega
        have hnx : ∀ ty, (Instr.next (.pointer (some ⟨w.heap.size, 0, none⟩)) true ty).run Try.prog (w.iter s pos) = _ := fun ty => run_next_any w s pos ty hlt
        have hd := (decode_high s pos hlt hh).1
        have HN := Aside0.mk (named_bad s pos hlt (sign_high hh))
        have HC := Aside0.mk (fun W => contains_high signs ((Utf8.decode s pos).1 : Int) W signs_ascii (by decide) (by decide) (by omega))
        unfold signs at HC
        clear hd hh
        generalize Utf8.decode s pos = dc at *
        go_wp2_with (go_at_call 55; (with_reducible refine (HC.out _).mono ?_); rintro e w1 ⟨rfl, hb1⟩)
        go_ret
        exact ⟨by rw [HN.out]; rfl, (iter_below _ _ _).trans (hb1.mono (iter_below w s _).size)⟩
    · obtain rfl : pos = s.size := by omega
      have hnx : ∀ ty, (Instr.next (.pointer (some ⟨w.heap.size, 0, none⟩)) true ty).run Try.prog (w.iter s s.size) = _ := fun ty => run_next_end w s s.size ty hlt
      have HN := Aside0.mk (named_end s HOk.out)
      by_cases he : s.size = 0
      · have hl : s.data.toList = [] := List.eq_nil_of_length_eq_zero (by simpa using he)
        have he' : s.toList.isEmpty = true := by rw [ByteArray.toList_eq, hl]; rfl
        have hz : s.size = 0 := he
        clear hl
        have HZ := Aside0.mk hz
        clear he hz
        go_wp2
        go_ret
        exact ⟨by rw [HN.out, HZ.out]; rfl, iter_below _ _ _⟩
      · have he' : s.toList.isEmpty = false := by
          rw [ByteArray.toList_eq]
          cases hl : s.data.toList with
          | nil => exact absurd (by have := congrArg List.length hl; simpa using this) he
          | cons _ _ => rfl
        have hz : 1 ≤ s.size := by omega
        have HZ := Aside0.mk (show namedB s = decide ((s.size : Int) ≤ 20) from by
          rw [HN.out, decide_eq_true hz, Bool.true_and]
          by_cases h : s.size ≤ 20
          · rw [decide_eq_true h, decide_eq_true (by omega)]
          · rw [decide_eq_false h, decide_eq_false (by omega)])
        clear he
        go_wp2
        go_ret
        exact ⟨by rw [HZ.out]; rfl, iter_below _ _ _⟩
end Go.Proofs.Ytbndgnbhmifefaa
