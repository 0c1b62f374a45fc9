/- strings.IndexRune and ContainsRune in a text of ASCII bytes, at a rune from 128 on: none. Conditions: as told. -/
import Derived.Test.YtbndgnbhmifefaaShelf
import Derived.Test.YtbndgnbhmifefaaWWords
import Derived.WalkKit
import Derived.WalkSpells
import Derived.Laws.RangeString
import Derived.Laws.RangeAny
import Derived.Laws.Runes
import Derived.BigQuiet
import Derived.Deep.QuietTactic
import Derived.RegionTactic
import Derived.Outline
import Derived.Deep.RegionHeld3
namespace Go.Proofs.Ytbndgnbhmifefaa
open Go.RowKit Go.Proofs.YtbndgnbhmifefaaW.PrintWords
set_option linter.unusedVariables false
set_option linter.unusedSimpArgs false
def AsciiS (S : ByteArray) : Prop := ∀ (i : Nat) (h : i < S.size), (S[i]'h).toNat < 128
theorem indexByte_high {c : UInt8} (hc : 128 ≤ c.toNat) : ∀ {l : List UInt8}, (∀ b ∈ l, b.toNat < 128) → Lib.indexByte l c = -1
  | [], _ => rfl
  | b :: l, h => by
    have hb := h b (List.mem_cons_self ..)
    have ih := indexByte_high hc (l := l) (fun x hx => h x (List.mem_cons_of_mem _ hx))
    unfold Lib.indexByte
    rw [ih]
    have : (b == c) = false := by
      rw [beq_eq_false_iff_ne]
      intro e
      rw [e] at hb
      omega
    rw [this]
    rfl
theorem ascii_list {S : ByteArray} (hS : AsciiS S) (a : Nat) : ∀ b ∈ (S.extract a S.size).data.toList, b.toNat < 128 := by
  intro b hb
  rw [Lib.extract_data] at hb
  have h1 := List.mem_of_mem_drop (List.mem_of_mem_take hb)
  obtain ⟨i, hi, rfl⟩ := List.mem_iff_getElem.1 h1
  exact hS i (by simpa using hi)
def RuneNone (w : World) (e : Ending) (w' : World) : Prop := e = .returned (.int .i64 (-1)) ∧ Below w.heap.size w w'
theorem iter_below0 (w : World) (s : ByteArray) (pos : Nat) : Below w.heap.size w (w.iter s pos) := (Below.refl _ _).alloc (Nat.le_refl _) _
set_option maxRecDepth 100000 in
set_option maxHeartbeats 4000000 in
theorem index_error (S : ByteArray) (w : World) (hS : AsciiS S) :
    Calls Try.prog 59 #[.string S, .int .i32 65533] w (RuneNone w) := by
  have HS := Aside0.mk hS
  clear hS
  go_enter Try.func59, Try.ntmps59
  go_wp2
  go_loopw [5] (fun v w' => ∃ pos : Nat, w' = w.iter S pos ∧ pos ≤ S.size) (fun _ w' => S.size - w'.iterPos w.heap.size)
  case atStart => exact ⟨0, rfl, by omega⟩
  case round =>
    obtain ⟨pos, rfl, hp⟩ := hrel
    by_cases hlt : pos < S.size
    · have HL := HS.out pos hlt
      have hnx : ∀ ty, (Instr.next (.pointer (some ⟨w.heap.size, 0, none⟩)) true ty).run Try.prog (w.iter S pos) = _ := fun ty => run_next_ascii w S pos ty hlt HL
      have hne : (((S[pos]'hlt).toNat : Int) == 65533) = false := by rw [beq_eq_false_iff_ne]; omega
      have hne2 : ¬ (((S[pos]'hlt).toNat : Int) = 65533) := by omega
      go_wp2
      go_roundw
      case rel => exact ⟨pos + 1, rfl, by omega⟩
      case measure => simp; omega
    · obtain rfl : pos = S.size := by omega
      have hnx : ∀ ty, (Instr.next (.pointer (some ⟨w.heap.size, 0, none⟩)) true ty).run Try.prog (w.iter S S.size) = _ := fun ty => run_next_end w S S.size ty hlt
      go_wp2
      go_ret
      exact ⟨rfl, iter_below0 _ _ _⟩
set_option maxRecDepth 100000 in
set_option maxHeartbeats 4000000 in
theorem index_not (S : ByteArray) (R : Int) (w : World) (h0 : 128 ≤ R) (h1 : ¬ R = 65533) (hv : Lib.validRune R = false) :
    Calls Try.prog 59 #[.string S, .int .i32 R] w (RuneNone w) := by
  have e1 : (R == 65533) = false := beq_eq_false_iff_ne.2 h1
  have e2 : ¬ R < 128 := by omega
  have HV := Aside0.mk (Try.utf8_ValidRune R)
  rw [hv] at HV
  clear hv
  go_enter Try.func59, Try.ntmps59
  go_wp2_with (go_at_call 72; (with_reducible refine (HV.out _).mono ?_); rintro e w' ⟨rfl, hw'⟩; have hw2 := hw'.symm; clear hw'; subst hw2)
  go_ret
  exact ⟨rfl, Below.refl _ _⟩
set_option maxRecDepth 100000 in
set_option maxHeartbeats 4000000 in
theorem index_valid (S : ByteArray) (R : Int) (w : World) (hS : AsciiS S) (hs4 : 4 ≤ S.size) (hsm : S.size ≤ 1000000) (h0 : 128 ≤ R) (h1 : ¬ R = 65533) (hv : Lib.validRune R = true) :
    Calls Try.prog 59 #[.string S, .int .i32 R] w (RuneNone w) := by
  have e1 : (R == 65533) = false := beq_eq_false_iff_ne.2 h1
  have e2 : ¬ R < 128 := by omega
  have HV := Aside0.mk (Try.utf8_ValidRune R)
  rw [hv] at HV
  have hvu : Utf8.valid R = true := by
    unfold Lib.validRune at hv
    unfold Utf8.valid
    simp only [decide_eq_true_eq] at hv
    simp
    omega
  obtain ⟨n2, n4, hb⟩ := encode_facts R hvu h0
  have hconv : ∀ W : World, (convert 21 9 (.int .i32 R)).run Try.prog W = .ok (.string (Utf8.encode R)) W := fun W => run_convert_int_string W _ _ _ R (by rw [Try.underlying21]; rfl) Try.underlying9
  generalize Utf8.encode R = rs at *
  obtain ⟨m, hm⟩ : ∃ m, rs.size = m + 1 := ⟨rs.size - 1, by omega⟩
  have hml : m < S.size := by omega
  have hmr : m < rs.size := by omega
  have hlast : 128 ≤ (rs[m]'hmr).toNat := by
    have h9 := hb (by omega)
    have key : rs[rs.size - 1]'(by omega) = rs[m]'hmr := by congr 1; omega
    rwa [key] at h9
  have hbyte := hS m hml
  have hIdx : ∀ a : Nat, Lib.indexByte (S.extract a S.size).data.toList (rs[m]'hmr) = -1 := fun a => indexByte_high hlast (ascii_list hS a)
  have HB := Aside0.mk (fun (a : Nat) (W : World) => (show Calls Try.prog 71 #[.string (S.extract a S.size), .int .u8 ((rs[m]'hmr).toNat : Int)] W (fun e w' => e = .returned (.int .i64 (-1)) ∧ W = w') from (Try.strings_IndexByte (S.extract a S.size) ((rs[m]'hmr).toNat : Int) W).mono (fun e w' ⟨he, hw⟩ => ⟨by
    rw [he]
    have : ((rs[m]'hmr).toNat : Int).toNat.toUInt8 = rs[m]'hmr := by simp
    rw [this, hIdx], hw.symm⟩)))
  have hmi : (m : Int) < (S.size : Int) := by omega
  have hmj : (m : Int) < (rs.size : Int) := by omega
  have hne : (((S[m]'hml).toNat : Int) != ((rs[m]'hmr).toNat : Int)) = true := by rw [bne_iff_ne]; omega
  clear hv hIdx hb hvu
  have HM := Aside0.mk hm
  clear hS
  go_enter Try.func59, Try.ntmps59
  go_wp2_with (go_at_call 72; (with_reducible refine (HV.out _).mono ?_); rintro e w' ⟨rfl, hw'⟩; have hw2 := hw'.symm; clear hw'; subst hw2)
  go_step3
  go_wp2
  refine wp_loop_rounds 1 ?_
  rw [rounds_succ]
  go_wp2
  go_step3
  go_wp2
  go_region_held3 (fun W => Below w.heap.size w W) (first | exact Below.refl _ _ | assumption | exact Below.drew (Below.refl _ _) | exact Below.drew (Below.drew (Below.refl _ _)) | go_keep) (fail)
  go_wp2
  all_goals
    have q1 : IntKind.i64.wrap ((m : Int) + 1) = (m : Int) + 1 := by rw [IntKind.wrap_i64]; omega
    have q2 : (0 : Int) ≤ (m : Int) + 1 := by omega
    have q3 : ((m : Int) + 1).toNat = m + 1 := by omega
    have q4 : (m : Int) + 1 ≤ (S.size : Int) := by omega
    have q5 : m + 1 ≤ S.size := by omega
    go_region_held3 (fun W => Below w.heap.size w W) (first | exact Below.refl _ _ | assumption | exact Below.drew (Below.refl _ _) | exact Below.drew (Below.drew (Below.refl _ _)) | go_keep)
      ((go_at_call 71; (with_reducible refine (HB.out _ _).mono ?_); rintro e w' ⟨rfl, rfl⟩))
    go_wp2
    all_goals
      rw [Exit.noGoto_ret]
      go_ret
      exact ⟨rfl, by first | assumption | exact Below.drew (Below.refl _ _) | exact Below.drew (Below.drew (Below.refl _ _))⟩
end Go.Proofs.Ytbndgnbhmifefaa
