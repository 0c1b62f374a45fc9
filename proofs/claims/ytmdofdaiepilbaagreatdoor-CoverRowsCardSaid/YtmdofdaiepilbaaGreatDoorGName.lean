/- strings.IndexRune and ContainsRune in a text of ASCII bytes, at a rune from 128 on: none. Conditions: as told. -/
import Derived.Test.YtmdofdaiepilbaaGreatDoorShelf
import Derived.Test.YtmdofdaiepilbaaGreatDoorWWords
import Derived.WalkKit
import Derived.WalkSpells
import Derived.Laws.RangeString
import Derived.Laws.RangeAny
import Derived.Laws.Runes
import Derived.BigQuiet
import Derived.Deep.QuietTactic
import Derived.RegionTactic
import Derived.Outline
import Derived.Deep.RegionHeld3
import Derived.Test.YtmdofdaiepilbaaGreatDoorGApi
import Derived.Test.YtmdofdaiepilbaaGreatDoorWMore
namespace Go.Proofs.YtmdofdaiepilbaaGreatDoor
open Go.RowKit Go.Proofs.YtmdofdaiepilbaaGreatDoorW.PrintWords
set_option linter.unusedVariables false
set_option linter.unusedSimpArgs false
def AsciiS (S : ByteArray) : Prop := ∀ (i : Nat) (h : i < S.size), (S[i]'h).toNat < 128
theorem indexByte_high {c : UInt8} (hc : 128 ≤ c.toNat) : ∀ {l : List UInt8}, (∀ b ∈ l, b.toNat < 128) → Lib.indexByte l c = -1
  | [], _ => rfl
  | b :: l, h => by
    have hb := h b (List.mem_cons_self ..)
    have ih := indexByte_high hc (l := l) (fun x hx => h x (List.mem_cons_of_mem _ hx))
    unfold Lib.indexByte
    rw [ih]
    have : (b == c) = false := by
      rw [beq_eq_false_iff_ne]
      intro e
      rw [e] at hb
      omega
    rw [this]
    rfl
theorem ascii_list {S : ByteArray} (hS : AsciiS S) (a : Nat) : ∀ b ∈ (S.extract a S.size).data.toList, b.toNat < 128 := by
  intro b hb
  rw [Lib.extract_data] at hb
  have h1 := List.mem_of_mem_drop (List.mem_of_mem_take hb)
  obtain ⟨i, hi, rfl⟩ := List.mem_iff_getElem.1 h1
  exact hS i (by simpa using hi)
def RuneNone (w : World) (e : Ending) (w' : World) : Prop := e = .returned (.int .i64 (-1)) ∧ Below w.heap.size w w'
theorem iter_below0 (w : World) (s : ByteArray) (pos : Nat) : Below w.heap.size w (w.iter s pos) := (Below.refl _ _).alloc (Nat.le_refl _) _
set_option maxRecDepth 100000 in
set_option maxHeartbeats 4000000 in
theorem index_error (S : ByteArray) (w : World) (hS : AsciiS S) :
    Calls Tryz.prog 114 #[.string S, .int .i32 65533] w (RuneNone w) := by
  have HS := Aside0.mk hS
  clear hS
  go_enter Tryz.func114, Tryz.ntmps114
  go_wp2
  go_loopw [5] (fun v w' => ∃ pos : Nat, w' = w.iter S pos ∧ pos ≤ S.size) (fun _ w' => S.size - w'.iterPos w.heap.size)
  case atStart => exact ⟨0, rfl, by omega⟩
  case round =>
    obtain ⟨pos, rfl, hp⟩ := hrel
    by_cases hlt : pos < S.size
    · have HL := HS.out pos hlt
      have hnx : ∀ ty, (Instr.next (.pointer (some ⟨w.heap.size, 0, none⟩)) true ty).run Tryz.prog (w.iter S pos) = _ := fun ty => run_next_ascii w S pos ty hlt HL
      have hne : (((S[pos]'hlt).toNat : Int) == 65533) = false := by rw [beq_eq_false_iff_ne]; omega
      have hne2 : ¬ (((S[pos]'hlt).toNat : Int) = 65533) := by omega
      go_wp2
      go_roundw
      case rel => exact ⟨pos + 1, rfl, by omega⟩
      case measure => simp; omega
    · obtain rfl : pos = S.size := by omega
      have hnx : ∀ ty, (Instr.next (.pointer (some ⟨w.heap.size, 0, none⟩)) true ty).run Tryz.prog (w.iter S S.size) = _ := fun ty => run_next_end w S S.size ty hlt
      go_wp2
      go_ret
      exact ⟨rfl, iter_below0 _ _ _⟩
set_option maxRecDepth 100000 in
set_option maxHeartbeats 4000000 in
theorem index_not (S : ByteArray) (R : Int) (w : World) (h0 : 128 ≤ R) (h1 : ¬ R = 65533) (hv : Lib.validRune R = false) :
    Calls Tryz.prog 114 #[.string S, .int .i32 R] w (RuneNone w) := by
  have e1 : (R == 65533) = false := beq_eq_false_iff_ne.2 h1
  have e2 : ¬ R < 128 := by omega
  have HV := Aside0.mk (Tryz.utf8_ValidRune R)
  rw [hv] at HV
  clear hv
  go_enter Tryz.func114, Tryz.ntmps114
  go_wp2_with (go_at_call 125; (with_reducible refine (HV.out _).mono ?_); rintro e w' ⟨rfl, hw'⟩; have hw2 := hw'.symm; clear hw'; subst hw2)
  go_ret
  exact ⟨rfl, Below.refl _ _⟩
set_option maxRecDepth 100000 in
set_option maxHeartbeats 4000000 in
theorem index_valid (S : ByteArray) (R : Int) (w : World) (hS : AsciiS S) (hs4 : 4 ≤ S.size) (hsm : S.size ≤ 1000000) (h0 : 128 ≤ R) (h1 : ¬ R = 65533) (hv : Lib.validRune R = true) :
    Calls Tryz.prog 114 #[.string S, .int .i32 R] w (RuneNone w) := by
  have e1 : (R == 65533) = false := beq_eq_false_iff_ne.2 h1
  have e2 : ¬ R < 128 := by omega
  have HV := Aside0.mk (Tryz.utf8_ValidRune R)
  rw [hv] at HV
  have hvu : Utf8.valid R = true := by
    unfold Lib.validRune at hv
    unfold Utf8.valid
    simp only [decide_eq_true_eq] at hv
    simp
    omega
  obtain ⟨n2, n4, hb⟩ := encode_facts R hvu h0
  have hconv : ∀ W : World, (convert 21 9 (.int .i32 R)).run Tryz.prog W = .ok (.string (Utf8.encode R)) W := fun W => run_convert_int_string W _ _ _ R (by rw [Tryz.underlying21]; rfl) Tryz.underlying9
  generalize Utf8.encode R = rs at *
  obtain ⟨m, hm⟩ : ∃ m, rs.size = m + 1 := ⟨rs.size - 1, by omega⟩
  have hml : m < S.size := by omega
  have hmr : m < rs.size := by omega
  have hlast : 128 ≤ (rs[m]'hmr).toNat := by
    have h9 := hb (by omega)
    have key : rs[rs.size - 1]'(by omega) = rs[m]'hmr := by congr 1; omega
    rwa [key] at h9
  have hbyte := hS m hml
  have hIdx : ∀ a : Nat, Lib.indexByte (S.extract a S.size).data.toList (rs[m]'hmr) = -1 := fun a => indexByte_high hlast (ascii_list hS a)
  have HB := Aside0.mk (fun (a : Nat) (W : World) => (show Calls Tryz.prog 124 #[.string (S.extract a S.size), .int .u8 ((rs[m]'hmr).toNat : Int)] W (fun e w' => e = .returned (.int .i64 (-1)) ∧ W = w') from (Tryz.strings_IndexByte (S.extract a S.size) ((rs[m]'hmr).toNat : Int) W).mono (fun e w' ⟨he, hw⟩ => ⟨by
    rw [he]
    have : ((rs[m]'hmr).toNat : Int).toNat.toUInt8 = rs[m]'hmr := by simp
    rw [this, hIdx], hw.symm⟩)))
  have hmi : (m : Int) < (S.size : Int) := by omega
  have hmj : (m : Int) < (rs.size : Int) := by omega
  have hne : (((S[m]'hml).toNat : Int) != ((rs[m]'hmr).toNat : Int)) = true := by rw [bne_iff_ne]; omega
  clear hv hIdx hb hvu
  have HM := Aside0.mk hm
  clear hS
  go_enter Tryz.func114, Tryz.ntmps114
  go_wp2_with (go_at_call 125; (with_reducible refine (HV.out _).mono ?_); rintro e w' ⟨rfl, hw'⟩; have hw2 := hw'.symm; clear hw'; subst hw2)
  go_step3
  go_wp2
  refine wp_loop_rounds 1 ?_
  rw [rounds_succ]
  go_wp2
  go_step3
  go_wp2
  go_region_held3 (fun W => Below w.heap.size w W) (first | exact Below.refl _ _ | assumption | exact Below.drew (Below.refl _ _) | exact Below.drew (Below.drew (Below.refl _ _)) | go_keep) (fail)
  go_wp2
  all_goals
    have q1 : IntKind.i64.wrap ((m : Int) + 1) = (m : Int) + 1 := by rw [IntKind.wrap_i64]; omega
    have q2 : (0 : Int) ≤ (m : Int) + 1 := by omega
    have q3 : ((m : Int) + 1).toNat = m + 1 := by omega
    have q4 : (m : Int) + 1 ≤ (S.size : Int) := by omega
    have q5 : m + 1 ≤ S.size := by omega
    go_region_held3 (fun W => Below w.heap.size w W) (first | exact Below.refl _ _ | assumption | exact Below.drew (Below.refl _ _) | exact Below.drew (Below.drew (Below.refl _ _)) | go_keep)
      ((go_at_call 124; (with_reducible refine (HB.out _ _).mono ?_); rintro e w' ⟨rfl, rfl⟩))
    go_wp2
    all_goals
      rw [Exit.noGoto_ret]
      go_ret
      exact ⟨rfl, by first | assumption | exact Below.drew (Below.refl _ _) | exact Below.drew (Below.drew (Below.refl _ _))⟩
end Go.Proofs.YtmdofdaiepilbaaGreatDoor

/- schema.Name and the document's Name tell of every text whether it is a name. Conditions: as told. -/
namespace Go.Proofs.YtmdofdaiepilbaaGreatDoor
open Go.RowKit Go.Proofs.YtmdofdaiepilbaaGreatDoorW.PrintWords
set_option linter.unusedVariables false
set_option linter.unusedSimpArgs false
def signsN : ByteArray := ⟨#[97, 98, 99, 100, 101, 102, 103, 104, 105, 106, 107, 108, 109, 110, 111, 112, 113, 114, 115, 116, 117, 118, 119, 120, 121, 122, 48, 49, 50, 51, 52, 53, 54, 55, 56, 57, 95]⟩
def smallN : ByteArray := ⟨#[97, 98, 99, 100, 101, 102, 103, 104, 105, 106, 107, 108, 109, 110, 111, 112, 113, 114, 115, 116, 117, 118, 119, 120, 121, 122]⟩
def lowB (c : UInt8) : Bool := decide (97 ≤ c.toNat) && decide (c.toNat ≤ 122)
def sgnB (c : UInt8) : Bool := lowB c || (decide (48 ≤ c.toNat) && decide (c.toNat ≤ 57)) || decide (c.toNat = 95)
/-- a name: 1 to 32 signs, a small letter first -/
def nameB (s : ByteArray) : Bool := s.data.toList.all sgnB && decide (1 ≤ s.size) && decide (s.size ≤ 32) && lowB (s.data.toList.headD 0)
theorem sgn_index : ∀ c : UInt8, c.toNat < 128 → decide (0 ≤ Lib.indexByte signsN.data.toList c) = sgnB c := by
  have h : ∀ n : Fin 128, decide (0 ≤ Lib.indexByte signsN.data.toList (UInt8.ofNat n.val)) = sgnB (UInt8.ofNat n.val) := by decide +kernel
  intro c hc
  have := h ⟨c.toNat, hc⟩
  simpa using this
theorem low_index : ∀ c : UInt8, c.toNat < 128 → decide (0 ≤ Lib.indexByte smallN.data.toList c) = lowB c := by
  have h : ∀ n : Fin 128, decide (0 ≤ Lib.indexByte smallN.data.toList (UInt8.ofNat n.val)) = lowB (UInt8.ofNat n.val) := by decide +kernel
  intro c hc
  have := h ⟨c.toNat, hc⟩
  simpa using this
theorem sgn_high {c : UInt8} (h : 128 ≤ c.toNat) : sgnB c = false := by
  unfold sgnB lowB
  have h1 : ¬ c.toNat ≤ 122 := by omega
  have h2 : ¬ c.toNat ≤ 57 := by omega
  have h3 : ¬ c.toNat = 95 := by omega
  simp [h1, h2, h3]
theorem sgn_lt {c : UInt8} (h : sgnB c = true) : c.toNat < 128 := by
  rcases Nat.lt_or_ge c.toNat 128 with h1 | h1
  · exact h1
  · rw [sgn_high h1] at h; cases h
theorem cr_sgn (c : UInt8) (b : Bool) (hc : c.toNat < 128) (hb : sgnB c = b) (W : World) : Calls Tryz.prog 99 #[.string ⟨#[97, 98, 99, 100, 101, 102, 103, 104, 105, 106, 107, 108, 109, 110, 111, 112, 113, 114, 115, 116, 117, 118, 119, 120, 121, 122, 48, 49, 50, 51, 52, 53, 54, 55, 56, 57, 95]⟩, .int .i32 (c.toNat : Int)] W fun e w' => e = .returned (.bool b) ∧ W = w' := by
  refine (Tryz.strings_ContainsRune_ascii signsN (c.toNat : Int) W (by omega) (by omega)).mono ?_
  rintro e w' ⟨rfl, rfl⟩
  refine ⟨?_, rfl⟩
  rw [← hb, ← sgn_index c hc]
  simp
theorem ct_low (c : UInt8) (b : Bool) (hc : c.toNat < 128) (hb : lowB c = b) (s : ByteArray) (hs : s = ⟨#[c]⟩) (W : World) : Calls Tryz.prog 100 #[.string ⟨#[97, 98, 99, 100, 101, 102, 103, 104, 105, 106, 107, 108, 109, 110, 111, 112, 113, 114, 115, 116, 117, 118, 119, 120, 121, 122]⟩, .string s] W fun e w' => e = .returned (.bool b) ∧ W = w' := by
  subst hs
  refine (Tryz.strings_Contains_one smallN c W).mono ?_
  rintro e w' ⟨rfl, rfl⟩
  refine ⟨?_, rfl⟩
  rw [← hb, ← low_index c hc]
  try rfl
def okToN (s : ByteArray) (pos : Nat) : Prop := (s.data.toList.take pos).all sgnB = true
theorem okToN_zero (s : ByteArray) : okToN s 0 := by simp [okToN]
theorem take_snocN (s : ByteArray) (k : Nat) (h : k < s.size) : s.data.toList.take (k + 1) = s.data.toList.take k ++ [s[k]] := by
  rw [List.take_succ_eq_append_getElem (by simpa using h)]; rfl
theorem okToN_succ (s : ByteArray) (k : Nat) (h : k < s.size) (h1 : okToN s k) (h2 : sgnB s[k] = true) : okToN s (k + 1) := by
  unfold okToN at *
  rw [take_snocN s k h, List.all_append, h1]
  simp [h2]
theorem nameB_bad (s : ByteArray) (k : Nat) (h : k < s.size) (h2 : sgnB s[k] = false) : nameB s = false := by
  unfold nameB
  have : s.data.toList.all sgnB = false := by
    rw [List.all_eq_false]
    exact ⟨s[k], by have : s[k] = s.data.toList[k]'(by simpa using h) := rfl; rw [this]; exact List.getElem_mem _, by simp [h2]⟩
  rw [this]; rfl
theorem nameB_end (s : ByteArray) (h : okToN s s.size) : nameB s = (decide (1 ≤ s.size) && decide (s.size ≤ 32) && lowB (s.data.toList.headD 0)) := by
  unfold nameB
  unfold okToN at h
  rw [List.take_of_length_le (by simp)] at h
  rw [h]; rfl
theorem iterN_below (w : World) (s : ByteArray) (pos : Nat) : Below w.heap.size w (w.iter s pos) := (Below.refl _ _).alloc (Nat.le_refl _) _
theorem headD_get {l : List UInt8} (h : 0 < l.length) : l.headD 0 = l[0] := by
  cases l with
  | nil => simp at h
  | cons a l => rfl
theorem ext_one {l : List UInt8} (h : 0 < l.length) : l.extract 0 1 = [l[0]] := by
  cases l with
  | nil => simp at h
  | cons a l => simp [List.extract_eq_take_drop]
theorem head_get (s : ByteArray) (h : 0 < s.size) : s.data.toList.headD 0 = s[0] := headD_get (by simpa using h)
theorem cut_one (s : ByteArray) (h : 0 < s.size) : s.extract 0 1 = ⟨#[s[0]]⟩ := by
  apply ByteArray.ext
  apply Array.toList_inj.1
  have h1 := ext_one (l := s.data.toList) (by simpa using h)
  have h2 : (s.extract 0 1).data.toList = s.data.toList.extract 0 1 := by simp [ByteArray.data_extract]
  rw [h2, h1]
  rfl
theorem indexN_high (S : ByteArray) (R : Int) (w : World) (hS : AsciiS S) (hs4 : 4 ≤ S.size) (hsm : S.size ≤ 1000000) (h0 : 128 ≤ R) : Calls Tryz.prog 114 #[.string S, .int .i32 R] w (RuneNone w) := by
  by_cases h1 : R = 65533
  · subst h1
    exact index_error S w hS
  · cases hv : Lib.validRune R
    · exact index_not S R w h0 h1 hv
    · exact index_valid S R w hS hs4 hsm h0 h1 hv
theorem containsN_high (S : ByteArray) (R : Int) (w : World) (hS : AsciiS S) (hs4 : 4 ≤ S.size) (hsm : S.size ≤ 1000000) (h0 : 128 ≤ R) : Calls Tryz.prog 99 #[.string S, .int .i32 R] w fun e w' => e = .returned (.bool false) ∧ Below w.heap.size w w' := by
  have H := Aside0.mk (indexN_high S R w hS hs4 hsm h0)
  clear hS
  go_enter Tryz.func99, Tryz.ntmps99
  go_wp2_with (go_at_call 114; (with_reducible refine H.out.mono ?_); rintro e w1 ⟨rfl, hb1⟩)
  go_ret
  exact ⟨rfl, hb1⟩
theorem ascii_of_allN {S : ByteArray} (h : S.data.toList.all (fun b => decide (b.toNat < 128)) = true) : AsciiS S := fun i hi => by
  have hi' : i < S.data.toList.length := by simpa using hi
  have := List.all_eq_true.1 h (S.data.toList[i]) (List.getElem_mem hi')
  exact of_decide_eq_true this
theorem cut_strN (s : ByteArray) (m : Nat) (h : m ≤ s.size) (W : World) : (Instr.slice 9 (.string s) none (some (.int .i64 (m : Int))) none).run Tryz.prog W = .ok (.string (s.extract 0 m)) W := by
  rw [run_slice_string_h W 9 s Tryz.underlying9 .i64 _ (by omega) (by omega), Int.toNat_natCast]
theorem cut_strL (s : ByteArray) (m : Int) (h0 : 0 ≤ m) (h : m ≤ s.size) (W : World) : (Instr.slice 9 (.string s) none (some (.int .i64 m)) none).run Tryz.prog W = .ok (.string (s.extract 0 m.toNat)) W := by
  rw [run_slice_string_h W 9 s Tryz.underlying9 .i64 _ (by omega) (by omega)]
set_option maxRecDepth 100000 in
set_option maxHeartbeats 4000000 in
theorem name_calls (s : ByteArray) (w : World) : Calls Tryz.prog 85 #[.string s] w fun e w' => e = .returned (.bool (nameB s)) ∧ Below w.heap.size w w' := by
  go_enter Tryz.func85, Tryz.ntmps85
  go_wp2
  go_loopw [4] (fun v w' => ∃ pos : Nat, w' = w.iter s pos ∧ pos ≤ s.size ∧ okToN s pos) (fun _ w' => s.size - w'.iterPos w.heap.size)
  case atStart => exact ⟨0, rfl, by omega, okToN_zero s⟩
  case round =>
    obtain ⟨pos, rfl, hp, hok⟩ := hrel
    have HOk := Aside0.mk hok
    clear hok
    by_cases hlt : pos < s.size
    · by_cases HL : (s[pos]'hlt).toNat < 128
      · have hnx : ∀ ty, (Instr.next (.pointer (some ⟨w.heap.size, 0, none⟩)) true ty).run Tryz.prog (w.iter s pos) = _ := fun ty => run_next_ascii w s pos ty hlt HL
        cases hb : sgnB (s[pos]'hlt)
        · have HC := Aside0.mk (fun W => cr_sgn (s[pos]'hlt) false HL hb W)
          have HN := Aside0.mk (nameB_bad s pos hlt hb)
          clear hb
          go_wp2_with (go_at_call 99; (with_reducible refine (HC.out _).mono ?_); rintro e w1 ⟨rfl, rfl⟩)
          go_ret
          exact ⟨by rw [HN.out]; rfl, iterN_below _ _ _⟩
        · have HC := Aside0.mk (fun W => cr_sgn (s[pos]'hlt) true HL hb W)
          have HN := Aside0.mk (okToN_succ s pos hlt HOk.out hb)
          clear hb
          go_wp2_with (go_at_call 99; (with_reducible refine (HC.out _).mono ?_); rintro e w1 ⟨rfl, rfl⟩)
          go_roundw
          case rel => exact ⟨pos + 1, rfl, by omega, HN.out⟩
          case measure => simp; omega
      · have hh : 128 ≤ (s[pos]'hlt).toNat := by omega
        have hnx : ∀ ty, (Instr.next (.pointer (some ⟨w.heap.size, 0, none⟩)) true ty).run Tryz.prog (w.iter s pos) = _ := fun ty => run_next_any w s pos ty hlt
        have hd := (decode_high s pos hlt hh).1
        have HN := Aside0.mk (nameB_bad s pos hlt (sgn_high hh))
        have HC := Aside0.mk (fun W => containsN_high signsN ((Utf8.decode s pos).1 : Int) W (ascii_of_allN (by decide)) (by decide) (by decide) (by omega))
        unfold signsN at HC
        clear hd hh
        generalize Utf8.decode s pos = dc at *
        go_wp2_with (go_at_call 99; (with_reducible refine (HC.out _).mono ?_); rintro e w1 ⟨rfl, hb1⟩)
        go_ret
        exact ⟨by rw [HN.out]; rfl, (iterN_below _ _ _).trans (hb1.mono (iterN_below w s _).size)⟩
    · obtain rfl : pos = s.size := by omega
      have hnx : ∀ ty, (Instr.next (.pointer (some ⟨w.heap.size, 0, none⟩)) true ty).run Tryz.prog (w.iter s s.size) = _ := fun ty => run_next_end w s s.size ty hlt
      have HN := Aside0.mk (nameB_end s HOk.out)
      by_cases he : s.size = 0
      · have hl : s.data.toList = [] := List.eq_nil_of_length_eq_zero (by simpa using he)
        have he' : s.toList.isEmpty = true := by rw [ByteArray.toList_eq, hl]; rfl
        have hz : s.size = 0 := he
        clear hl
        have HZ := Aside0.mk hz
        clear he hz
        go_wp2
        go_ret
        exact ⟨by rw [HN.out, HZ.out]; rfl, iterN_below _ _ _⟩
      · have he' : s.toList.isEmpty = false := by
          rw [ByteArray.toList_eq]
          cases hl : s.data.toList with
          | nil => exact absurd (by have := congrArg List.length hl; simpa using this) he
          | cons _ _ => rfl
        have hz : 1 ≤ s.size := by omega
        have h0 : 0 < s.size := by omega
        by_cases h32 : s.size ≤ 32
        · have hd : decide ((s.size : Int) ≤ 32) = true := decide_eq_true (by omega)
          have hd2 : (s.size : Int) ≤ 32 := by omega
          have hsl : ∀ W : World, (Instr.slice 9 (.string s) none (some (.int .i64 1)) none).run Tryz.prog W = .ok (.string ⟨#[s[0]'h0]⟩) W := fun W => by
            have := cut_strL s 1 (by omega) (by omega) W
            rw [this, show (1 : Int).toNat = 1 from rfl, cut_one s h0]
          have hok1 : okToN s s.size := HOk.out
          have hlow : (s[0]'h0).toNat < 128 := by
            refine sgn_lt ?_
            unfold okToN at hok1
            rw [List.take_of_length_le (by simp)] at hok1
            have h1 : s[0]'h0 = s.data.toList[0]'(by simpa using h0) := rfl
            rw [h1]
            exact List.all_eq_true.1 hok1 _ (List.getElem_mem _)
          have HC := Aside0.mk (fun W => ct_low (s[0]'h0) (lowB (s[0]'h0)) hlow rfl ⟨#[s[0]'h0]⟩ rfl W)
          have HZ := Aside0.mk (show nameB s = lowB (s[0]'h0) by rw [HN.out, decide_eq_true hz, decide_eq_true h32, head_get s h0]; rfl)
          clear he hok1 hlow
          generalize s[0]'h0 = c0 at *
          go_wp2_with (go_at_call 100; (with_reducible refine (HC.out _).mono ?_); rintro e w1 ⟨rfl, rfl⟩)
          go_ret
          exact ⟨by rw [HZ.out]; rfl, iterN_below _ _ _⟩
        · have hd : decide ((s.size : Int) ≤ 32) = false := decide_eq_false (by omega)
          have hd2 : ¬ (s.size : Int) ≤ 32 := by omega
          have HZ := Aside0.mk (show nameB s = false by rw [HN.out, decide_eq_false h32]; simp)
          clear he
          go_wp2
          go_ret
          exact ⟨by rw [HZ.out]; rfl, iterN_below _ _ _⟩
end Go.Proofs.YtmdofdaiepilbaaGreatDoor

/- The document's Name tells of every text whether it is a name. Conditions: as told. -/
namespace Go.Proofs.YtmdofdaiepilbaaGreatDoor
open Go.RowKit Go.Proofs.YtmdofdaiepilbaaGreatDoorW.PrintWords
set_option linter.unusedVariables false
set_option linter.unusedSimpArgs false
theorem retB {a b : Bool} (h : a = b) : Ending.returned (.bool b) = Ending.returned (.bool a) := by rw [h]
theorem index_atN (s : ByteArray) (k : Nat) (h : k < s.size) (W : World) : (Instr.index 9 (.string s) (.int .i64 (k : Int))).run Tryz.prog W = .ok (.int .u8 ((s[k]'h).toNat : Int)) W := by
  rw [run_index_string W 9 s .i64 (k : Int) Tryz.underlying9, dif_pos ⟨by omega, by omega⟩]
  rfl
theorem sgn_no {c : UInt8} (h : sgnB c = false) : (decide ((c.toNat : Int) < 97) = true ∨ (decide ((c.toNat : Int) < 97) = false ∧ decide ((c.toNat : Int) > 122) = true)) ∧ (decide ((c.toNat : Int) < 48) = true ∨ (decide ((c.toNat : Int) < 48) = false ∧ decide ((c.toNat : Int) > 57) = true)) ∧ ((c.toNat : Int) != 95) = true := by
  unfold sgnB lowB at h
  simp at h ⊢
  omega
theorem sgn_yes {c : UInt8} (h : sgnB c = true) : (decide ((c.toNat : Int) < 97) = false ∧ decide ((c.toNat : Int) > 122) = false) ∨ ((decide ((c.toNat : Int) < 97) = true ∨ (decide ((c.toNat : Int) < 97) = false ∧ decide ((c.toNat : Int) > 122) = true)) ∧ ((decide ((c.toNat : Int) < 48) = false ∧ decide ((c.toNat : Int) > 57) = false) ∨ ((decide ((c.toNat : Int) < 48) = true ∨ (decide ((c.toNat : Int) < 48) = false ∧ decide ((c.toNat : Int) > 57) = true)) ∧ ((c.toNat : Int) != 95) = false))) := by
  unfold sgnB lowB at h
  simp at h ⊢
  omega
set_option maxRecDepth 100000 in
set_option maxHeartbeats 8000000 in
theorem name04_calls (s : ByteArray) (w : World) : Calls Tryz.prog 23 #[.string s] w fun e w' => e = .returned (.bool (nameB s)) ∧ w' = w := by
  by_cases h1 : 1 ≤ s.size
  case neg =>
    have HZ := Aside0.mk (show nameB s = false by unfold nameB; rw [decide_eq_false h1]; simp)
    have hd : decide ((s.size : Int) < 1) = true := decide_eq_true (by omega)
    go_enter Tryz.func23, Tryz.ntmps23
    go_wp2
    go_ret
    exact ⟨retB HZ.out, rfl⟩
  have hd : decide ((s.size : Int) < 1) = false := decide_eq_false (by omega)
  by_cases h2 : s.size ≤ 32
  case neg =>
    have HZ := Aside0.mk (show nameB s = false by unfold nameB; rw [decide_eq_false h2]; simp)
    have hd2 : decide ((s.size : Int) > 32) = true := decide_eq_true (by omega)
    go_enter Tryz.func23, Tryz.ntmps23
    go_wp2
    go_ret
    exact ⟨retB HZ.out, rfl⟩
  have hd2 : decide ((s.size : Int) > 32) = false := decide_eq_false (by omega)
  have h0 : 0 < s.size := by omega
  have hx0 : ∀ W : World, (Instr.index 9 (.string s) (.int .i64 0)).run Tryz.prog W = .ok (.int .u8 ((s[0]'h0).toNat : Int)) W := fun W => index_atN s 0 h0 W
  have hH := head_get s h0
  cases hl : lowB (s[0]'h0)
  · have HZ := Aside0.mk (show nameB s = false by unfold nameB; rw [hH, hl]; simp)
    have hq : decide (((s[0]'h0).toNat : Int) < 97) = true ∨ (decide (((s[0]'h0).toNat : Int) < 97) = false ∧ decide (((s[0]'h0).toNat : Int) > 122) = true) := by
      unfold lowB at hl; simp at hl ⊢; omega
    clear hl hH
    generalize (s[0]'h0).toNat = v at *
    rcases hq with q1 | ⟨q1, q2⟩
    all_goals
      go_enter Tryz.func23, Tryz.ntmps23
      go_wp2
      go_ret
      exact ⟨retB HZ.out, rfl⟩
  have HH := Aside0.mk (show lowB (s.data.toList.headD 0) = true by rw [hH, hl])
  have q1 : decide (((s[0]'h0).toNat : Int) < 97) = false := by unfold lowB at hl; simp at hl ⊢; omega
  have q2 : decide (((s[0]'h0).toNat : Int) > 122) = false := by unfold lowB at hl; simp at hl ⊢; omega
  clear hl hH
  generalize (s[0]'h0).toNat = v0 at *
  go_enter Tryz.func23, Tryz.ntmps23
  go_wp2
  clear hx0 q1 q2 hd hd2
  go_loopw [3] (fun v w' => w' = w ∧ ∃ pos : Nat, v = .int .i64 pos ∧ pos ≤ s.size ∧ okToN s pos) (fun v _ => s.size - (intOf v).toNat)
  case atStart => exact ⟨rfl, 0, rfl, by omega, okToN_zero s⟩
  case round =>
    obtain ⟨rfl, pos, rfl, hp, hok⟩ := hrel
    have HOk := Aside0.mk hok
    clear hok
    by_cases hlt : pos < s.size
    · have hx := index_atN s pos hlt
      have HNext := Aside0.mk (fun h => okToN_succ s pos hlt HOk.out h)
      have HBad := Aside0.mk (fun h => nameB_bad s pos hlt h)
      cases hb : sgnB (s[pos]'hlt)
      · have HBAD := Aside0.mk (HBad.out hb)
        obtain ⟨q1, q2, q4⟩ := sgn_no hb
        clear hb HNext HBad
        generalize hv : (s[pos]'hlt).toNat = v at *
        clear hv
        rcases q1 with q1 | ⟨q1, q1'⟩ <;> rcases q2 with q2 | ⟨q2, q2'⟩
        all_goals (go_wp2; go_ret; exact ⟨retB HBAD.out, rfl⟩)
      · have HN := Aside0.mk (HNext.out hb)
        have hq := sgn_yes hb
        clear hb HNext HBad
        generalize hv : (s[pos]'hlt).toNat = v at *
        clear hv
        rcases hq with ⟨q1, q2⟩ | ⟨q1 | ⟨q1, q2⟩, ⟨q3, q4⟩ | ⟨q3 | ⟨q3, q4⟩, q5⟩⟩
        all_goals (go_wp2; go_roundw; (case rel => exact ⟨trivial, pos + 1, by go_num, by omega, HN.out⟩); (case measure => simp [intOf]; omega))
    · obtain rfl : pos = s.size := by omega
      have HZ := Aside0.mk (show nameB s = true by rw [nameB_end s HOk.out, HH.out, decide_eq_true h1, decide_eq_true h2]; rfl)
      go_wp2
      go_ret
      exact ⟨retB HZ.out, rfl⟩
end Go.Proofs.YtmdofdaiepilbaaGreatDoor

/- schema.Find and the document's Find: the place of a column. Conditions: the columns read so. -/
namespace Go.Proofs.YtmdofdaiepilbaaGreatDoor
open Go.RowKit Go.Proofs.YtmdofdaiepilbaaGreatDoorW.PrintWords
set_option linter.unusedVariables false
set_option linter.unusedSimpArgs false
/-- the place of a column; -1: it is not there -/
def findCol (l : List Col) (s : ByteArray) : Int := match l.findIdx? (fun c => decide (c.name = s)) with | some i => (i : Int) | none => -1
theorem str_eqN (a b : ByteArray) : (a.toList == b.toList) = decide (a = b) := by
  rw [ByteArray.toList_eq, ByteArray.toList_eq]
  by_cases h : a = b
  · subst h; simp
  · rw [decide_eq_false h, beq_eq_false_iff_ne]
    intro he
    exact h (ByteArray.ext (Array.toList_inj.1 he))
theorem rdCol_get {l : List Col} {k : Nat} (h : k < l.length) : rdCol l k = l[k] := by unfold rdCol; simp [List.getD_eq_getElem?_getD, h]
theorem findCol_none {l : List Col} {s : ByteArray} (h : ∀ j, j < l.length → (rdCol l j).name ≠ s) : findCol l s = -1 := by
  unfold findCol
  rw [List.findIdx?_eq_none_iff.2 (fun f hf => by
    obtain ⟨j, hj, rfl⟩ := List.mem_iff_getElem.1 hf
    have := h j hj
    rw [rdCol_get hj] at this
    exact decide_eq_false this)]
theorem findCol_some {l : List Col} {s : ByteArray} {k : Nat} (hk : k < l.length) (h1 : (rdCol l k).name = s) (h2 : ∀ j, j < k → (rdCol l j).name ≠ s) : findCol l s = (k : Int) := by
  unfold findCol
  have : l.findIdx? (fun f => decide (f.name = s)) = some k := by
    rw [List.findIdx?_eq_some_iff_getElem]
    refine ⟨hk, ?_, fun j hj => ?_⟩
    · rw [← rdCol_get hk]; exact decide_eq_true h1
    · have hjl : j < l.length := by omega
      have := h2 j hj
      rw [rdCol_get hjl] at this
      simpa using this
  rw [this]
theorem findCol_cases (l : List Col) (s : ByteArray) : (findCol l s = -1 ∧ ∀ j, j < l.length → (rdCol l j).name ≠ s) ∨ ∃ k, k < l.length ∧ findCol l s = (k : Int) ∧ (rdCol l k).name = s ∧ ∀ j, j < k → (rdCol l j).name ≠ s := by
  by_cases h : ∃ k, k < l.length ∧ (rdCol l k).name = s
  · right
    have hex := h
    let p : Nat → Prop := fun k => k < l.length ∧ (rdCol l k).name = s
    obtain ⟨k, hk, hmin⟩ : ∃ k, p k ∧ ∀ j, j < k → ¬ p j := by
      obtain ⟨k, hk⟩ := h
      induction k using Nat.strongRecOn with
      | _ k ih =>
        by_cases hj : ∃ j, j < k ∧ p j
        · obtain ⟨j, hj, hp⟩ := hj; exact ih j hj hp
        · exact ⟨k, hk, fun j hjk hp => hj ⟨j, hjk, hp⟩⟩
    have hlt : ∀ j, j < k → (rdCol l j).name ≠ s := fun j hj he => hmin j hj ⟨by have := hk.1; omega, he⟩
    exact ⟨k, hk.1, findCol_some hk.1 hk.2 hlt, hk.2, hlt⟩
  · left
    have h' : ∀ j, j < l.length → (rdCol l j).name ≠ s := fun j hj he => h ⟨j, hj, he⟩
    exact ⟨findCol_none h', h'⟩
theorem findCol_le (l : List Col) (s : ByteArray) : -1 ≤ findCol l s ∧ findCol l s < l.length := by
  rcases findCol_cases l s with ⟨h, _⟩ | ⟨k, hk, h, _⟩ <;> rw [h] <;> omega
theorem retI {a b : Int} (h : a = b) : Ending.returned (.int .i64 b) = Ending.returned (.int .i64 a) := by rw [h]
set_option maxRecDepth 100000 in
set_option maxHeartbeats 4000000 in
theorem find1_calls (nm s : ByteArray) (ki : Int) (no : Bool) (g : Nat) (w : World) (hc : w.cell? ⟨g, 0, none⟩ = some (.string s)) (b : Bool) (hb : decide (nm = s) = b) :
    Calls Tryz.prog 117 #[.agg #[.string nm, .int .i64 ki, .bool no], .pointer (some ⟨g, 0, none⟩)] w fun e w' => e = .returned (.bool b) ∧ Below w.heap.size w w' := by
  have hlt : g < w.heap.size := World.block_lt_of_cell? w _ hc
  have hq : (nm.toList == s.toList) = b := by rw [str_eqN]; exact hb
  have hne : g ≠ w.heap.size := by omega
  clear hb
  go_enter Tryz.func117, Tryz.ntmps117
  go_wp2
  go_ret
  exact ⟨retB rfl, below_alloc (Below.refl _ _) _⟩
set_option maxRecDepth 100000 in
set_option maxHeartbeats 4000000 in
theorem idxCol_calls (A : Option Addr) (c : Nat) (l : List Col) (s : ByteArray) (g : Nat) (w : World) (hC : kCol.C w A l.length l) (hc : w.cell? ⟨g, 0, none⟩ = some (.string s)) :
    Calls Tryz.prog 116 #[.slice A l.length c, .func (.func 117) #[] #[.pointer (some ⟨g, 0, none⟩)]] w fun e w' => e = .returned (.int .i64 (findCol l s)) ∧ Below w.heap.size w w' := by
  have hlen : l.length ≤ 9223372036854775807 := hC.2.1
  have HC := Aside0.mk hC
  have HG := Aside0.mk hc
  have hcall : ∀ args W, (callFunc 117 args).run Tryz.prog W = .ok (.enter 117 args) W := fun _ _ => by kernel_rfl
  clear hC hc
  go_enter Tryz.func116, Tryz.ntmps116
  go_wp2
  go_loopw [5, 8] (fun u i wr => ∃ k : Nat, k ≤ l.length ∧ i = .int .i64 k ∧ (∀ j, j < k → (rdCol l j).name ≠ s) ∧ Below w.heap.size w wr) (fun _ i _ => l.length - (intOf i).toNat)
  case atStart => exact ⟨0, by omega, rfl, fun j hj => by omega, Below.refl _ _⟩
  case round =>
    obtain ⟨k, hk, rfl, hno, hbel⟩ := hrel
    have HNo := Aside0.mk hno
    clear hno
    by_cases hlt : k < l.length
    · obtain ⟨ad, eA, d0, d1, d2⟩ := at_Col HC.out k hlt
      cases eA
      replace d0 := pw_cell_below hbel d0
      replace d1 := pw_cell_below hbel d1
      replace d2 := pw_cell_below hbel d2
      have hg := pw_cell_below hbel HG.out
      have HBel := Aside0.mk hbel
      clear hbel
      by_cases hb : (rdCol l k).name = s
      · have HX := Aside0.mk (findCol_some hlt hb HNo.out)
        have HM := Aside0.mk (fun W h => find1_calls (rdCol l k).name s (rdCol l k).kind (rdCol l k).none g W h true (decide_eq_true hb))
        clear hb
        generalize rdCol l k = x at *
        go_wp2_with (go_at_call 117; (with_reducible refine (HM.out _ hg).mono ?_); rintro e w1 ⟨rfl, hb1⟩; have HB1 := Aside0.mk hb1; clear hb1)
        go_ret
        exact ⟨retI HX.out, HBel.out.trans (HB1.out.mono HBel.out.size)⟩
      · have HX := Aside0.mk (show ∀ j, j < k + 1 → (rdCol l j).name ≠ s from fun j hj => by
          rcases Nat.lt_or_ge j k with h | h
          · exact HNo.out j h
          · have : j = k := by omega
            rw [this]; exact hb)
        have HM := Aside0.mk (fun W h => find1_calls (rdCol l k).name s (rdCol l k).kind (rdCol l k).none g W h false (decide_eq_false hb))
        clear hb
        generalize rdCol l k = x at *
        go_wp2_with (go_at_call 117; (with_reducible refine (HM.out _ hg).mono ?_); rintro e w1 ⟨rfl, hb1⟩; have HB1 := Aside0.mk hb1; clear hb1)
        go_roundw
        case rel => exact ⟨k + 1, by omega, by go_num, HX.out, HBel.out.trans (HB1.out.mono HBel.out.size)⟩
        case measure => simp [intOf]; omega
    · obtain rfl : k = l.length := by omega
      have HX := Aside0.mk (findCol_none HNo.out)
      go_wp2
      go_ret
      exact ⟨retI HX.out, hbel⟩
set_option maxRecDepth 100000 in
set_option maxHeartbeats 4000000 in
theorem find_calls (A : Option Addr) (c : Nat) (l : List Col) (ks : Int) (s : ByteArray) (w : World) (hC : kCol.C w A l.length l) :
    Calls Tryz.prog 102 #[.agg #[.slice A l.length c, .int .i64 ks], .string s] w fun e w' => e = .returned (.int .i64 (findCol l s)) ∧ Below w.heap.size w w' := by
  have HI := Aside0.mk (fun (W : World) (hb : Below w.heap.size w W) (g : Nat) (h : W.cell? ⟨g, 0, none⟩ = some (.string s)) => idxCol_calls A c l s g W (Kd.C_below hC hb) h)
  clear hC
  go_enter Tryz.func102, Tryz.ntmps102
  go_wp2_with (go_at_call 116; (with_reducible refine (HI.out _ (below_alloc (below_alloc (Below.refl _ _) _) _) _ (by go_simp)).mono ?_); rintro e w1 ⟨rfl, hb1⟩; have HB1 := Aside0.mk hb1; clear hb1)
  go_ret
  exact ⟨rfl, (below_alloc (below_alloc (Below.refl _ _) _) _).trans (HB1.out.mono (by simp; omega))⟩
set_option maxRecDepth 100000 in
set_option maxHeartbeats 4000000 in
theorem find04_calls (A : Option Addr) (c : Nat) (l : List Col) (ks : Int) (s : ByteArray) (w : World) (hC : kCol.C w A l.length l) :
    Calls Tryz.prog 68 #[.agg #[.slice A l.length c, .int .i64 ks], .string s] w fun e w' => e = .returned (.int .i64 (findCol l s)) ∧ Below w.heap.size w w' := by
  have hlen : l.length ≤ 9223372036854775807 := hC.2.1
  have HC := Aside0.mk hC
  clear hC
  go_enter Tryz.func68, Tryz.ntmps68
  go_wp2
  have hW : Below w.heap.size w (w.alloc (.cells #[.slice A l.length c, .int .i64 ks] 43)) := below_alloc (Below.refl _ _) _
  have h0 : (w.alloc (.cells #[.slice A l.length c, .int .i64 ks] 43)).heap[w.heap.size]? = some (.cells #[.slice A l.length c, .int .i64 ks] 43 (0, 0)) := heap_alloc_new _ _
  generalize w.alloc (.cells #[.slice A l.length c, .int .i64 ks] 43) = W1 at *
  have a0 : W1.cell? ⟨w.heap.size, 0, none⟩ = some (.slice A l.length c) := cell_of_row W1 _ 0 _ _ _ h0
  have HW := Aside0.mk hW
  clear h0 hW
  go_loop [5] (fun i => ∃ k : Nat, k ≤ l.length ∧ i = .int .i64 k ∧ (∀ j, j < k → (rdCol l j).name ≠ s)) (fun i => l.length - (intOf i).toNat)
  case atStart => exact ⟨0, by omega, rfl, fun j hj => by omega⟩
  case round =>
    obtain ⟨k, hk, rfl, hno⟩ := hrel
    have HNo := Aside0.mk hno
    clear hno
    by_cases hlt : k < l.length
    · obtain ⟨ad, eA, d0, d1, d2⟩ := at_Col HC.out k hlt
      cases eA
      replace d0 := pw_cell_below HW.out d0
      clear d1 d2
      by_cases hb : (rdCol l k).name = s
      · have HX := Aside0.mk (findCol_some hlt hb HNo.out)
        have hq : ((rdCol l k).name.toList == s.toList) = true := by rw [str_eqN]; exact decide_eq_true hb
        clear hb
        generalize rdCol l k = x at *
        go_wp2
        go_ret
        exact ⟨retI HX.out, HW.out⟩
      · have HX := Aside0.mk (show ∀ j, j < k + 1 → (rdCol l j).name ≠ s from fun j hj => by
          rcases Nat.lt_or_ge j k with h | h
          · exact HNo.out j h
          · have : j = k := by omega
            rw [this]; exact hb)
        have hq : ((rdCol l k).name.toList == s.toList) = false := by rw [str_eqN]; exact decide_eq_false hb
        clear hb
        generalize rdCol l k = x at *
        go_wp2
        go_round
        case rel => exact ⟨k + 1, by omega, by go_num, HX.out⟩
        case measure => simp [intOf]; omega
    · obtain rfl : k = l.length := by omega
      have HX := Aside0.mk (findCol_none HNo.out)
      go_wp2
      go_ret
      exact ⟨retI HX.out, HW.out⟩
end Go.Proofs.YtmdofdaiepilbaaGreatDoor

/- schema.May and the document's May: whether a schema may be. Conditions: the columns read so. -/
namespace Go.Proofs.YtmdofdaiepilbaaGreatDoor
open Go.RowKit Go.Proofs.YtmdofdaiepilbaaGreatDoorW.PrintWords Go.Proofs.YtmdofdaiepilbaaGreatDoorW.PrintMore
set_option linter.unusedVariables false
set_option linter.unusedSimpArgs false
def kindB (k : Int) : Bool := decide (1 ≤ k) && decide (k ≤ 4)
def colB (l : List Col) (keys : Int) (i : Nat) : Bool := nameB (rdCol l i).name && kindB (rdCol l i).kind && decide (findCol l (rdCol l i).name = (i : Int)) && !(decide ((i : Int) < keys) && (rdCol l i).none)
def headB (l : List Col) (keys : Int) : Bool := decide (l.length ≤ 16) && decide (1 ≤ keys) && decide (keys ≤ 4) && decide (keys ≤ (l.length : Int))
def mayB (l : List Col) (keys : Int) : Bool := headB l keys && (List.range l.length).all (colB l keys)
theorem bmore {W w1 w2 : World} (h : Below W.heap.size W w1) (h2 : Below w1.heap.size w1 w2) : Below W.heap.size W w2 := h.trans (h2.mono h.size)
theorem mayB_bad {l : List Col} {keys : Int} {k : Nat} (h : k < l.length) (hb : colB l keys k = false) : mayB l keys = false := by
  unfold mayB
  have : (List.range l.length).all (colB l keys) = false := by
    rw [List.all_eq_false]
    exact ⟨k, List.mem_range.2 h, by simp [hb]⟩
  rw [this, Bool.and_false]
theorem mayB_good {l : List Col} {keys : Int} (h0 : headB l keys = true) (h : ∀ j, j < l.length → colB l keys j = true) : mayB l keys = true := by
  unfold mayB
  rw [h0, Bool.true_and, List.all_eq_true]
  exact fun j hj => h j (List.mem_range.1 hj)
theorem headB_no {l : List Col} {keys : Int} (h : ¬ (l.length ≤ 16 ∧ 1 ≤ keys ∧ keys ≤ 4 ∧ keys ≤ (l.length : Int))) : headB l keys = false := by
  rw [Bool.eq_false_iff]
  intro h'
  unfold headB at h'
  simp only [Bool.and_eq_true, decide_eq_true_eq] at h'
  exact h ⟨h'.1.1.1, h'.1.1.2, h'.1.2, h'.2⟩
theorem headB_yes {l : List Col} {keys : Int} (h : l.length ≤ 16 ∧ 1 ≤ keys ∧ keys ≤ 4 ∧ keys ≤ (l.length : Int)) : headB l keys = true := by
  unfold headB
  rw [decide_eq_true h.1, decide_eq_true h.2.1, decide_eq_true h.2.2.1, decide_eq_true h.2.2.2]
  rfl
theorem mayB_head {l : List Col} {keys : Int} (h0 : headB l keys = false) : mayB l keys = false := by unfold mayB; rw [h0, Bool.false_and]
theorem kind_calls (k : Int) (b : Bool) (hb : kindB k = b) (w : World) : Calls Tryz.prog 101 #[.int .i64 k] w fun e w' => e = .returned (.bool b) ∧ w = w' := by
  unfold kindB at hb
  by_cases h1 : 1 ≤ k
  · have q1 : decide (k ≥ 1) = true := decide_eq_true h1
    rw [decide_eq_true h1, Bool.true_and] at hb
    have q2 : decide (k ≤ 4) = b := hb
    clear hb
    go_enter Tryz.func101, Tryz.ntmps101
    go_wp2
    go_ret
    exact ⟨rfl, rfl⟩
  · have q1 : decide (k ≥ 1) = false := decide_eq_false h1
    rw [decide_eq_false h1, Bool.false_and] at hb
    subst hb
    go_enter Tryz.func101, Tryz.ntmps101
    go_wp2
    go_ret
    exact ⟨rfl, rfl⟩
theorem kind04_calls (k : Int) (b : Bool) (hb : kindB k = b) (w : World) : Calls Tryz.prog 74 #[.int .i64 k] w fun e w' => e = .returned (.bool b) ∧ w = w' := by
  unfold kindB at hb
  by_cases h1 : 1 ≤ k
  · have q1 : decide (k ≥ 1) = true := decide_eq_true h1
    rw [decide_eq_true h1, Bool.true_and] at hb
    have q2 : decide (k ≤ 4) = b := hb
    clear hb
    go_enter Tryz.func74, Tryz.ntmps74
    go_wp2
    go_ret
    exact ⟨rfl, rfl⟩
  · have q1 : decide (k ≥ 1) = false := decide_eq_false h1
    rw [decide_eq_false h1, Bool.false_and] at hb
    subst hb
    go_enter Tryz.func74, Tryz.ntmps74
    go_wp2
    go_ret
    exact ⟨rfl, rfl⟩
theorem min_calls (a b : Int) : ∀ (ats : Array TypeId) (ty : TypeId), Builtin.min_ ats ty #[.int .i64 a, .int .i64 b] = pure (.int .i64 (min a b)) := fun ats ty => by
  rw [min_two]
  simp only [min2_int, pure_bind]
  congr 2
  split <;> omega
set_option maxRecDepth 100000 in
set_option maxHeartbeats 8000000 in
theorem may_calls (A : Option Addr) (c : Nat) (l : List Col) (ks : Int) (w : World) (hC : kCol.C w A l.length l) :
    Calls Tryz.prog 86 #[.agg #[.slice A l.length c, .int .i64 ks]] w fun e w' => e = .returned (.bool (mayB l ks)) ∧ Below w.heap.size w w' := by
  have HC := Aside0.mk hC
  have HF := Aside0.mk (fun (W : World) (hb : Below w.heap.size w W) (s : ByteArray) => find_calls A c l ks s W (Kd.C_below hC hb))
  have hm := min_calls (l.length : Int) 4
  generalize hmin : min (l.length : Int) 4 = mn at *
  have hmn : mn ≤ 4 ∧ mn ≤ (l.length : Int) ∧ (mn = 4 ∨ mn = (l.length : Int)) := by omega
  clear hC hmin
  by_cases h1 : l.length ≤ 16
  case neg =>
    have HZ := Aside0.mk (mayB_head (keys := ks) (l := l) (headB_no (by omega)))
    have q1 : decide ((l.length : Int) > 16) = true := decide_eq_true (by omega)
    go_enter Tryz.func86, Tryz.ntmps86
    go_wp2
    go_ret
    exact ⟨retB HZ.out, below_alloc (Below.refl _ _) _⟩
  have q1 : decide ((l.length : Int) > 16) = false := decide_eq_false (by omega)
  by_cases h2 : 1 ≤ ks
  case neg =>
    have HZ := Aside0.mk (mayB_head (keys := ks) (l := l) (headB_no (by omega)))
    have q2 : decide (ks < 1) = true := decide_eq_true (by omega)
    go_enter Tryz.func86, Tryz.ntmps86
    go_wp2
    go_ret
    exact ⟨retB HZ.out, below_alloc (Below.refl _ _) _⟩
  have q2 : decide (ks < 1) = false := decide_eq_false (by omega)
  by_cases h3 : ks ≤ mn
  case neg =>
    have HZ := Aside0.mk (mayB_head (keys := ks) (l := l) (headB_no (by omega)))
    have q3 : decide (ks > mn) = true := decide_eq_true (by omega)
    go_enter Tryz.func86, Tryz.ntmps86
    go_wp2
    go_ret
    exact ⟨retB HZ.out, below_alloc (Below.refl _ _) _⟩
  have q3 : decide (ks > mn) = false := decide_eq_false (by omega)
  have HH := Aside0.mk (headB_yes (l := l) (keys := ks) (by omega))
  go_enter Tryz.func86, Tryz.ntmps86
  go_wp2
  have hW : Below w.heap.size w (w.alloc (.cells #[.slice A l.length c, .int .i64 ks] 43)) := below_alloc (Below.refl _ _) _
  have h0 : (w.alloc (.cells #[.slice A l.length c, .int .i64 ks] 43)).heap[w.heap.size]? = some (.cells #[.slice A l.length c, .int .i64 ks] 43 (0, 0)) := heap_alloc_new _ _
  generalize w.alloc (.cells #[.slice A l.length c, .int .i64 ks] 43) = W1 at *
  have H0 := Aside0.mk h0
  have HW := Aside0.mk hW
  clear h0 hW q1 q2 q3 hm
  go_loopw [26] (fun i wr => ∃ k : Nat, k ≤ l.length ∧ i = .int .i64 k ∧ (∀ j, j < k → colB l ks j = true) ∧ Below W1.heap.size W1 wr) (fun i _ => l.length - (intOf i).toNat)
  case atStart => exact ⟨0, by omega, rfl, fun j hj => by omega, Below.refl _ _⟩
  case round =>
    obtain ⟨k, hk, rfl, hok, hbel⟩ := hrel
    have HOk := Aside0.mk hok
    clear hok
    by_cases hlt : k < l.length
    case neg =>
      obtain rfl : k = l.length := by omega
      have HX := Aside0.mk (mayB_good HH.out HOk.out)
      go_wp2
      go_ret
      exact ⟨retB HX.out, bmore HW.out hbel⟩
    obtain ⟨ad, eA, d0, d1, d2⟩ := at_Col HC.out k hlt
    subst eA
    replace d0 := pw_cell_below (bmore HW.out hbel) d0
    replace d1 := pw_cell_below (bmore HW.out hbel) d1
    replace d2 := pw_cell_below (bmore HW.out hbel) d2
    have a0 : wr.cell? ⟨w.heap.size, 0, none⟩ = some (.slice (some ad) l.length c) := pw_cell_below hbel (cell_of_row W1 _ 0 _ _ _ H0.out)
    have a1 : wr.cell? ⟨w.heap.size, 1, none⟩ = some (.int .i64 ks) := pw_cell_below hbel (cell_of_row W1 _ 1 _ _ _ H0.out)
    have HBel := Aside0.mk hbel
    have HBad := Aside0.mk (fun (h : colB l ks k = false) => mayB_bad hlt h)
    have HCol := Aside0.mk (show colB l ks k = (nameB (rdCol l k).name && kindB (rdCol l k).kind && decide (findCol l (rdCol l k).name = (k : Int)) && !(decide ((k : Int) < ks) && (rdCol l k).none)) from rfl)
    have HNext := Aside0.mk (show colB l ks k = true → ∀ j, j < k + 1 → colB l ks j = true from fun hb j hj => by
      rcases Nat.lt_or_ge j k with h | h
      · exact HOk.out j h
      · have : j = k := by omega
        rw [this]; exact hb)
    clear hbel
    have hwlt : w.heap.size < wr.heap.size := World.block_lt_of_cell? wr _ a0
    have hadlt := World.block_lt_of_cell? wr _ d0
    have HFc := Aside0.mk (fun (W : World) (hb : Below wr.heap.size wr W) => HF.out W (bmore (bmore HW.out HBel.out) hb) (rdCol l k).name)
    generalize findCol l (rdCol l k).name = fc at *
    generalize rdCol l k = x at *
    have HN := Aside0.mk (name_calls x.name)
    have HK := Aside0.mk (fun W => kind_calls x.kind (kindB x.kind) rfl W)
    generalize nameB x.name = bn at *
    generalize kindB x.kind = bk at *
    have HB0 := Aside0.mk (show Below wr.heap.size wr (wr.alloc (.cells #[.string x.name, .int .i64 x.kind, .bool x.none] 51)) from below_alloc (Below.refl _ _) _)
    have HX0 := Aside0.mk (fun (W : World) (hb : Below (wr.alloc (.cells #[.string x.name, .int .i64 x.kind, .bool x.none] 51)).heap.size (wr.alloc (.cells #[.string x.name, .int .i64 x.kind, .bool x.none] 51)) W) => (show W.cell? ⟨wr.heap.size, 0, none⟩ = some (.string x.name) ∧ W.cell? ⟨wr.heap.size, 1, none⟩ = some (.int .i64 x.kind) ∧ W.cell? ⟨wr.heap.size, 2, none⟩ = some (.bool x.none) ∧ W.cell? ⟨w.heap.size, 0, none⟩ = some (.slice (some ad) l.length c) ∧ W.cell? ⟨w.heap.size, 1, none⟩ = some (.int .i64 ks) from
      ⟨pw_cell_below hb (cell_of_row _ _ 0 _ _ _ (heap_alloc_new _ _)), pw_cell_below hb (cell_of_row _ _ 1 _ _ _ (heap_alloc_new _ _)), pw_cell_below hb (cell_of_row _ _ 2 _ _ _ (heap_alloc_new _ _)), pw_cell_below hb (pw_cell_below HB0.out a0), pw_cell_below hb (pw_cell_below HB0.out a1)⟩))
    cases bn
    · have HX := Aside0.mk (HBad.out (by rw [HCol.out]; rfl))
      go_wp2_with (go_at_call 85; (with_reducible refine (HN.out _).mono ?_); rintro e w1 ⟨rfl, hb1⟩; have HB1 := Aside0.mk hb1; clear hb1)
      go_ret
      exact ⟨retB HX.out, bmore (bmore HW.out HBel.out) (bmore HB0.out HB1.out)⟩
    · cases bk
      · have HX := Aside0.mk (HBad.out (by rw [HCol.out]; rfl))
        go_wp2_with (first
      | (go_at_call 85; (with_reducible refine (HN.out _).mono ?_); rintro e w1 ⟨rfl, hb1⟩; obtain ⟨p0, p1, p2, p3, p4⟩ := HX0.out w1 hb1; have HBa := Aside0.mk hb1; have HB1 := Aside0.mk (bmore HB0.out hb1); clear hb1)
      | (go_at_call 101; (with_reducible refine (HK.out _).mono ?_); rintro e w2 ⟨rfl, rfl⟩)
      | (go_at_call 102; (with_reducible refine (HFc.out _ HB1.out).mono ?_); rintro e w3 ⟨rfl, hb1⟩; obtain ⟨r0, r1, r2, r3, r4⟩ := HX0.out w3 (bmore HBa.out hb1); have HB3 := Aside0.mk (bmore HB1.out hb1); clear hb1))
        go_ret
        exact ⟨retB HX.out, bmore (bmore HW.out HBel.out) HB1.out⟩
      · by_cases hf : fc = (k : Int)
        · have hf2 : (fc != (k : Int)) = false := by rw [bne_eq_false_iff_eq]; exact hf
          have HFk := Aside0.mk hf
          clear hf
          by_cases hks : (k : Int) < ks
          · cases hno : x.none
            · rw [hno] at d2 HB0 HX0
              have HX := Aside0.mk (HNext.out (by rw [HCol.out, hno, HFk.out]; simp))
              clear hno
              go_wp2_with (first
              | (go_at_call 85; (with_reducible refine (HN.out _).mono ?_); rintro e w1 ⟨rfl, hb1⟩; obtain ⟨p0, p1, p2, p3, p4⟩ := HX0.out w1 hb1; have HBa := Aside0.mk hb1; have HB1 := Aside0.mk (bmore HB0.out hb1); clear hb1)
              | (go_at_call 101; (with_reducible refine (HK.out _).mono ?_); rintro e w2 ⟨rfl, rfl⟩)
              | (go_at_call 102; (with_reducible refine (HFc.out _ HB1.out).mono ?_); rintro e w3 ⟨rfl, hb1⟩; obtain ⟨r0, r1, r2, r3, r4⟩ := HX0.out w3 (bmore HBa.out hb1); have HB3 := Aside0.mk (bmore HB1.out hb1); clear hb1))
              go_roundw
              case rel => exact ⟨k + 1, by omega, by go_num, HX.out, bmore HBel.out HB3.out⟩
              case measure => simp [intOf]; omega
            · rw [hno] at d2 HB0 HX0
              have HX := Aside0.mk (HBad.out (by rw [HCol.out, hno, decide_eq_true hks]; simp))
              clear hno
              go_wp2_with (first
              | (go_at_call 85; (with_reducible refine (HN.out _).mono ?_); rintro e w1 ⟨rfl, hb1⟩; obtain ⟨p0, p1, p2, p3, p4⟩ := HX0.out w1 hb1; have HBa := Aside0.mk hb1; have HB1 := Aside0.mk (bmore HB0.out hb1); clear hb1)
              | (go_at_call 101; (with_reducible refine (HK.out _).mono ?_); rintro e w2 ⟨rfl, rfl⟩)
              | (go_at_call 102; (with_reducible refine (HFc.out _ HB1.out).mono ?_); rintro e w3 ⟨rfl, hb1⟩; obtain ⟨r0, r1, r2, r3, r4⟩ := HX0.out w3 (bmore HBa.out hb1); have HB3 := Aside0.mk (bmore HB1.out hb1); clear hb1))
              go_ret
              exact ⟨retB HX.out, bmore (bmore HW.out HBel.out) HB3.out⟩
          · have HX := Aside0.mk (HNext.out (by rw [HCol.out, HFk.out, decide_eq_false hks]; simp))
            go_wp2_with (first
            | (go_at_call 85; (with_reducible refine (HN.out _).mono ?_); rintro e w1 ⟨rfl, hb1⟩; obtain ⟨p0, p1, p2, p3, p4⟩ := HX0.out w1 hb1; have HBa := Aside0.mk hb1; have HB1 := Aside0.mk (bmore HB0.out hb1); clear hb1)
            | (go_at_call 101; (with_reducible refine (HK.out _).mono ?_); rintro e w2 ⟨rfl, rfl⟩)
            | (go_at_call 102; (with_reducible refine (HFc.out _ HB1.out).mono ?_); rintro e w3 ⟨rfl, hb1⟩; obtain ⟨r0, r1, r2, r3, r4⟩ := HX0.out w3 (bmore HBa.out hb1); have HB3 := Aside0.mk (bmore HB1.out hb1); clear hb1))
            go_roundw
            case rel => exact ⟨k + 1, by omega, by go_num, HX.out, bmore HBel.out HB3.out⟩
            case measure => simp [intOf]; omega
        · have hf2 : (fc != (k : Int)) = true := by rw [bne_iff_ne]; exact hf
          have HX := Aside0.mk (HBad.out (by rw [HCol.out, decide_eq_false hf]; simp))
          clear hf
          go_wp2_with (first
          | (go_at_call 85; (with_reducible refine (HN.out _).mono ?_); rintro e w1 ⟨rfl, hb1⟩; obtain ⟨p0, p1, p2, p3, p4⟩ := HX0.out w1 hb1; have HBa := Aside0.mk hb1; have HB1 := Aside0.mk (bmore HB0.out hb1); clear hb1)
          | (go_at_call 101; (with_reducible refine (HK.out _).mono ?_); rintro e w2 ⟨rfl, rfl⟩)
          | (go_at_call 102; (with_reducible refine (HFc.out _ HB1.out).mono ?_); rintro e w3 ⟨rfl, hb1⟩; obtain ⟨r0, r1, r2, r3, r4⟩ := HX0.out w3 (bmore HBa.out hb1); have HB3 := Aside0.mk (bmore HB1.out hb1); clear hb1))
          go_ret
          exact ⟨retB HX.out, bmore (bmore HW.out HBel.out) HB3.out⟩
end Go.Proofs.YtmdofdaiepilbaaGreatDoor

/- The document's May: whether a schema may be. Conditions: the columns read so. -/
namespace Go.Proofs.YtmdofdaiepilbaaGreatDoor
open Go.RowKit Go.Proofs.YtmdofdaiepilbaaGreatDoorW.PrintWords Go.Proofs.YtmdofdaiepilbaaGreatDoorW.PrintMore
set_option linter.unusedVariables false
set_option linter.unusedSimpArgs false
def CutM (wr : World) (x : Col) (p : Value) (w' : World) : Prop := p = .pointer (some ⟨wr.heap.size, 0, none⟩) ∧ ∃ W5, W5 = w' ∧ Below wr.heap.size wr W5 ∧ W5.heap[wr.heap.size]? = some (.cells #[.string x.name, .int .i64 x.kind, .bool x.none] 51 (0, 0))
theorem CutM.mk0 (wr : World) (x : Col) : CutM wr x (.pointer (some ⟨wr.heap.size, 0, none⟩)) (wr.alloc (.cells #[.string x.name, .int .i64 x.kind, .bool x.none] 51)) := ⟨rfl, _, rfl, below_alloc (Below.refl _ _) _, heap_alloc_new _ _⟩
set_option maxRecDepth 100000 in
set_option maxHeartbeats 8000000 in
theorem may04_calls (A : Option Addr) (c : Nat) (l : List Col) (ks : Int) (w : World) (hC : kCol.C w A l.length l) :
    Calls Tryz.prog 49 #[.agg #[.slice A l.length c, .int .i64 ks]] w fun e w' => e = .returned (.bool (mayB l ks)) ∧ Below w.heap.size w w' := by
  have HC := Aside0.mk hC
  clear hC
  by_cases h0' : 1 ≤ l.length
  case neg =>
    have q0 : decide ((l.length : Int) < 1) = true := decide_eq_true (by omega)
    have HZ := Aside0.mk (mayB_head (keys := ks) (l := l) (headB_no (by omega)))
    go_enter Tryz.func49, Tryz.ntmps49
    go_wp2
    go_ret
    exact ⟨retB HZ.out, below_alloc (Below.refl _ _) _⟩
  have q0 : decide ((l.length : Int) < 1) = false := decide_eq_false (by omega)
  by_cases h1 : l.length ≤ 16
  case neg =>
    have HZ := Aside0.mk (mayB_head (keys := ks) (l := l) (headB_no (by omega)))
    have q1 : decide ((l.length : Int) > 16) = true := decide_eq_true (by omega)
    go_enter Tryz.func49, Tryz.ntmps49
    go_wp2
    go_ret
    exact ⟨retB HZ.out, below_alloc (Below.refl _ _) _⟩
  have q1 : decide ((l.length : Int) > 16) = false := decide_eq_false (by omega)
  by_cases h2 : 1 ≤ ks
  case neg =>
    have HZ := Aside0.mk (mayB_head (keys := ks) (l := l) (headB_no (by omega)))
    have q2 : decide (ks < 1) = true := decide_eq_true (by omega)
    go_enter Tryz.func49, Tryz.ntmps49
    go_wp2
    go_ret
    exact ⟨retB HZ.out, below_alloc (Below.refl _ _) _⟩
  have q2 : decide (ks < 1) = false := decide_eq_false (by omega)
  by_cases h3 : ks ≤ 4
  case neg =>
    have HZ := Aside0.mk (mayB_head (keys := ks) (l := l) (headB_no (by omega)))
    have q3 : decide (ks > 4) = true := decide_eq_true (by omega)
    go_enter Tryz.func49, Tryz.ntmps49
    go_wp2
    go_ret
    exact ⟨retB HZ.out, below_alloc (Below.refl _ _) _⟩
  have q3 : decide (ks > 4) = false := decide_eq_false (by omega)
  by_cases h4 : ks ≤ (l.length : Int)
  case neg =>
    have HZ := Aside0.mk (mayB_head (keys := ks) (l := l) (headB_no (by omega)))
    have q4 : decide (ks > (l.length : Int)) = true := decide_eq_true (by omega)
    go_enter Tryz.func49, Tryz.ntmps49
    go_wp2
    go_ret
    exact ⟨retB HZ.out, below_alloc (Below.refl _ _) _⟩
  have q4 : decide (ks > (l.length : Int)) = false := decide_eq_false (by omega)
  have HH := Aside0.mk (headB_yes (l := l) (keys := ks) (by omega))
  go_enter Tryz.func49, Tryz.ntmps49
  go_wp2
  have hW : Below w.heap.size w (w.alloc (.cells #[.slice A l.length c, .int .i64 ks] 43)) := below_alloc (Below.refl _ _) _
  have h0 : (w.alloc (.cells #[.slice A l.length c, .int .i64 ks] 43)).heap[w.heap.size]? = some (.cells #[.slice A l.length c, .int .i64 ks] 43 (0, 0)) := heap_alloc_new _ _
  generalize w.alloc (.cells #[.slice A l.length c, .int .i64 ks] 43) = W1 at *
  have H0 := Aside0.mk h0
  have HW := Aside0.mk hW
  clear h0 hW q0 q1 q2 q3 q4
  go_loopw [4] (fun i wr => ∃ k : Nat, k ≤ l.length ∧ i = .int .i64 k ∧ (∀ j, j < k → colB l ks j = true) ∧ Below W1.heap.size W1 wr) (fun i _ => l.length - (intOf i).toNat)
  case atStart => exact ⟨0, by omega, rfl, fun j hj => by omega, Below.refl _ _⟩
  case round =>
    obtain ⟨k, hk, rfl, hok, hbel⟩ := hrel
    have HOk := Aside0.mk hok
    clear hok
    by_cases hlt : k < l.length
    case neg =>
      obtain rfl : k = l.length := by omega
      have HX := Aside0.mk (mayB_good HH.out HOk.out)
      go_wp2
      go_ret
      exact ⟨retB HX.out, bmore HW.out hbel⟩
    obtain ⟨ad, eA, d0, d1, d2⟩ := at_Col HC.out k hlt
    subst eA
    replace d0 := pw_cell_below (bmore HW.out hbel) d0
    replace d1 := pw_cell_below (bmore HW.out hbel) d1
    replace d2 := pw_cell_below (bmore HW.out hbel) d2
    have a0 : wr.cell? ⟨w.heap.size, 0, none⟩ = some (.slice (some ad) l.length c) := pw_cell_below hbel (cell_of_row W1 _ 0 _ _ _ H0.out)
    have a1 : wr.cell? ⟨w.heap.size, 1, none⟩ = some (.int .i64 ks) := pw_cell_below hbel (cell_of_row W1 _ 1 _ _ _ H0.out)
    have HBel := Aside0.mk hbel
    have HBad := Aside0.mk (fun (h : colB l ks k = false) => mayB_bad hlt h)
    have HCol := Aside0.mk (show colB l ks k = (nameB (rdCol l k).name && kindB (rdCol l k).kind && decide (findCol l (rdCol l k).name = (k : Int)) && !(decide ((k : Int) < ks) && (rdCol l k).none)) from rfl)
    have HNext := Aside0.mk (show colB l ks k = true → ∀ j, j < k + 1 → colB l ks j = true from fun hb j hj => by
      rcases Nat.lt_or_ge j k with h | h
      · exact HOk.out j h
      · have : j = k := by omega
        rw [this]; exact hb)
    have HFst := Aside0.mk (show (∀ j, j < k → (rdCol l j).name ≠ (rdCol l k).name) → findCol l (rdCol l k).name = (k : Int) from fun h => findCol_some hlt rfl h)
    have HTwo := Aside0.mk (show ∀ j, j < k → (rdCol l j).name = (rdCol l k).name → findCol l (rdCol l k).name ≠ (k : Int) from fun j hj he hf => by
      rcases findCol_cases l (rdCol l k).name with ⟨h, _⟩ | ⟨i, hi, h, _, hno⟩
      · rw [h] at hf; omega
      · rw [h] at hf; exact hno j (by omega) he)
    clear hbel
    have hwlt : w.heap.size < wr.heap.size := World.block_lt_of_cell? wr _ a0
    have hadlt := World.block_lt_of_cell? wr _ d0
    generalize findCol l (rdCol l k).name = fc at *
    generalize rdCol l k = x at *
    have HN := Aside0.mk (name04_calls x.name)
    generalize nameB x.name = bn at *
    have HB0 := Aside0.mk (show Below wr.heap.size wr (wr.alloc (.cells #[.string x.name, .int .i64 x.kind, .bool x.none] 51)) from below_alloc (Below.refl _ _) _)
    have HX0 := Aside0.mk (fun (W : World) (hb : Below (wr.alloc (.cells #[.string x.name, .int .i64 x.kind, .bool x.none] 51)).heap.size (wr.alloc (.cells #[.string x.name, .int .i64 x.kind, .bool x.none] 51)) W) => (show W.cell? ⟨wr.heap.size, 0, none⟩ = some (.string x.name) ∧ W.cell? ⟨w.heap.size, 0, none⟩ = some (.slice (some ad) l.length c) from
      ⟨pw_cell_below hb (cell_of_row _ _ 0 _ _ _ (heap_alloc_new _ _)), pw_cell_below hb (pw_cell_below HB0.out a0)⟩))
    cases bn
    case false =>
      have HX := Aside0.mk (HBad.out (by rw [HCol.out]; rfl))
      go_wp2_with (go_at_call 23; (with_reducible refine (HN.out _).mono ?_); rintro e w1 ⟨rfl, hw1⟩; have hw2 := hw1.symm; clear hw1; subst hw2)
      go_ret
      exact ⟨retB HX.out, bmore (bmore HW.out HBel.out) HB0.out⟩
    by_cases k1 : 1 ≤ x.kind
    case neg =>
      have q1 : decide (x.kind < 1) = true := decide_eq_true (by omega)
      have HX := Aside0.mk (HBad.out (by rw [HCol.out]; unfold kindB; rw [decide_eq_false k1]; simp))
      go_wp2_with (go_at_call 23; (with_reducible refine (HN.out _).mono ?_); rintro e w1 ⟨rfl, hw1⟩; have hw2 := hw1.symm; clear hw1; subst hw2)
      go_ret
      exact ⟨retB HX.out, bmore (bmore HW.out HBel.out) HB0.out⟩
    have q1 : decide (x.kind < 1) = false := decide_eq_false (by omega)
    by_cases k4 : x.kind ≤ 4
    case neg =>
      have q2 : decide (x.kind > 4) = true := decide_eq_true (by omega)
      have HX := Aside0.mk (HBad.out (by rw [HCol.out]; unfold kindB; rw [decide_eq_false k4]; simp))
      go_wp2_with (go_at_call 23; (with_reducible refine (HN.out _).mono ?_); rintro e w1 ⟨rfl, hw1⟩; have hw2 := hw1.symm; clear hw1; subst hw2)
      go_ret
      exact ⟨retB HX.out, bmore (bmore HW.out HBel.out) HB0.out⟩
    have q2 : decide (x.kind > 4) = false := decide_eq_false (by omega)
    have HKd := Aside0.mk (show kindB x.kind = true by unfold kindB; rw [decide_eq_true k1, decide_eq_true k4]; rfl)
    by_cases hks : (k : Int) < ks ∧ x.none = true
    · obtain ⟨hks, hno⟩ := hks
      rw [hno] at d2 HB0 HX0
      have q3 : decide ((k : Int) < ks) = true := decide_eq_true hks
      have HX := Aside0.mk (HBad.out (by rw [HCol.out, hno, q3]; simp))
      clear hno
      go_wp2_with (go_at_call 23; (with_reducible refine (HN.out _).mono ?_); rintro e w1 ⟨rfl, hw1⟩; have hw2 := hw1.symm; clear hw1; subst hw2)
      go_ret
      exact ⟨retB HX.out, bmore (bmore HW.out HBel.out) HB0.out⟩
    have HQ := Aside0.mk (show (!(decide ((k : Int) < ks) && x.none)) = true by
      by_cases h : (k : Int) < ks
      · rw [decide_eq_true h]; cases hx : x.none
        · rfl
        · exact absurd ⟨h, hx⟩ hks
      · rw [decide_eq_false h]; rfl)
    have HCut := Aside0.mk (CutM.mk0 wr x)
    have hq3 : (decide ((k : Int) < ks) = true ∧ x.none = false) ∨ decide ((k : Int) < ks) = false := by
      by_cases h : (k : Int) < ks
      · cases hx : x.none
        · exact .inl ⟨decide_eq_true h, rfl⟩
        · exact absurd ⟨h, hx⟩ hks
      · exact .inr (decide_eq_false h)
    clear hks
    rcases hq3 with ⟨q3, hno⟩ | q3
    all_goals
      try rw [hno] at d2 HB0 HX0 HCut
      try clear hno
      go_upto_if 67 with (go_at_call 23; (with_reducible refine (HN.out _).mono ?_); rintro e w1 ⟨rfl, hw1⟩; have hw2 := hw1.symm; clear hw1; subst hw2)
      go_cut [5] (fun p w' => CutM wr x p w')
      case first =>
        go_wp2
        go_meet
        case rel => exact HCut.out
      obtain ⟨rfl, w5, rfl, hb5, hx5⟩ := hcut
      have e0 : w5.cell? ⟨wr.heap.size, 0, none⟩ = some (.string x.name) := cell_of_row w5 _ 0 _ _ _ hx5
      replace a0 := pw_cell_below hb5 a0
      have HB5 := Aside0.mk hb5
      clear hb5 hx5 d0 d1 d2 a1 HCut q1 q2 q3 HX0 HB0
      go_wp2
      go_loopw [7] (fun i wq => ∃ m : Nat, m ≤ k ∧ i = .int .i64 m ∧ (∀ j, j < m → (rdCol l j).name ≠ x.name) ∧ Below w5.heap.size w5 wq) (fun i _ => k - (intOf i).toNat)
      case atStart => exact ⟨0, by omega, rfl, fun j hj => by omega, Below.refl _ _⟩
      case round =>
        obtain ⟨m, hm, rfl, hno, hbm⟩ := hrel
        have HNo := Aside0.mk hno
        clear hno
        by_cases hmk : m < k
        case neg =>
          obtain rfl : m = k := by omega
          have HX := Aside0.mk (HNext.out (by rw [HCol.out, HKd.out, HQ.out, HFst.out HNo.out]; simp))
          go_wp2
          go_roundw
          case rel => exact ⟨m + 1, by omega, by go_num, HX.out, bmore HBel.out (bmore HB5.out hbm)⟩
          case measure => simp [intOf]; omega
        have hml : m < l.length := by omega
        obtain ⟨bd, eB, f0, _, _⟩ := at_Col HC.out m hml
        cases eB
        replace f0 := pw_cell_below (bmore (bmore HW.out HBel.out) (bmore HB5.out hbm)) f0
        have b0 := pw_cell_below hbm a0
        have g0 := pw_cell_below hbm e0
        have HBm := Aside0.mk hbm
        clear hbm
        have hj0 : (0 : Int) ≤ (m : Int) := by omega
        have hj1 : (m : Int) < (l.length : Int) := by omega
        by_cases he : (rdCol l m).name = x.name
        · have HX := Aside0.mk (HBad.out (by rw [HCol.out, decide_eq_false (HTwo.out m hmk he)]; simp))
          have hq : ((rdCol l m).name.toList == x.name.toList) = true := by rw [str_eqN]; exact decide_eq_true he
          clear he
          generalize rdCol l m = y at *
          go_wp2
          go_quiet (fail)
          go_wp2
          go_ret
          exact ⟨retB HX.out, bmore (bmore HW.out HBel.out) (bmore HB5.out (bmore HBm.out (pw_below_drewN (Below.refl _ _) _)))⟩
        · have HX := Aside0.mk (show ∀ j, j < m + 1 → (rdCol l j).name ≠ x.name from fun j hj => by
            rcases Nat.lt_or_ge j m with h | h
            · exact HNo.out j h
            · have : j = m := by omega
              rw [this]; exact he)
          have hq : ((rdCol l m).name.toList == x.name.toList) = false := by rw [str_eqN]; exact decide_eq_false he
          clear he
          generalize rdCol l m = y at *
          go_wp2
          go_quiet (fail)
          go_wp2
          go_roundw
          case rel => exact ⟨m + 1, by omega, by go_num, HX.out, bmore HBm.out (pw_below_drewN (Below.refl _ _) _)⟩
          case measure => simp [intOf]; omega
end Go.Proofs.YtmdofdaiepilbaaGreatDoor
