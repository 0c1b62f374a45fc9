/- The document's utf8 tells of every text whether it is UTF-8, as Go's own does. Conditions: its length. -/
import Derived.Test.YtmdofdaiepilbaaGreatDoorGName
import Derived.Lib.ValidLaws
namespace Go.Proofs.YtmdofdaiepilbaaGreatDoor
open Go.RowKit Go.Proofs.YtmdofdaiepilbaaGreatDoorW.PrintWords
set_option linter.unusedVariables false
set_option linter.unusedSimpArgs false
def bN (l : List UInt8) (i : Nat) : Nat := (l.getD i 0).toNat
theorem bN_lt (l : List UInt8) (i : Nat) : bN l i < 256 := by unfold bN; exact UInt8.toNat_lt _
/-- a rune's number, byte by byte -/
def accN (off : Nat) (l : List UInt8) : Nat → Int
  | 0 => 0
  | 1 => (bN l 0 : Int) - off
  | m + 2 => 64 * accN off l (m + 1) + bN l (m + 1) - 128
def contN (l : List UInt8) (m : Nat) : Prop := ∀ j, 1 ≤ j → j < m → 128 ≤ bN l j ∧ bN l j < 192
def okN (n least off : Nat) (l : List UInt8) : Prop := n ≤ l.length ∧ contN l n ∧ (least : Int) ≤ accN off l n ∧ accN off l n ≤ 1114111 ∧ ¬ (55296 ≤ accN off l n ∧ accN off l n ≤ 57343)
theorem vd2 {l : List UInt8} (h0 : 192 ≤ bN l 0) (h1 : bN l 0 < 224) (hne : l ≠ []) : (okN 2 128 192 l → Lib.validD l = Lib.validD (l.drop 2)) ∧ (¬ okN 2 128 192 l → Lib.validD l = false) := by
  have h := Lib.validD_lead l hne (by unfold bN at h0; omega)
  have hb1 := bN_lt l 1
  unfold okN contN
  have ha : accN 192 l 2 = 64 * ((bN l 0 : Int) - 192) + bN l 1 - 128 := rfl
  rw [ha]
  change Lib.validD l = match Lib.checkN l.length (bN l 1) (bN l 2) (bN l 3) (Lib.firstT (bN l 0) % 8) (Lib.accLo (Lib.firstT (bN l 0) / 16)) (Lib.accHi (Lib.firstT (bN l 0) / 16)) with | none => false | some k => Lib.validD (l.drop k) at h
  generalize bN l 2 = b2 at h
  generalize bN l 3 = b3 at h
  by_cases c0 : bN l 0 < 194
  · have hf : Lib.firstT (bN l 0) = 241 := by unfold Lib.firstT; simp [show ¬ bN l 0 < 128 by omega, c0]
    rw [hf] at h
    have hc : Lib.checkN l.length (bN l 1) b2 b3 (241 % 8) (Lib.accLo (241 / 16)) (Lib.accHi (241 / 16)) = none := by unfold Lib.checkN; simp
    rw [hc] at h
    refine ⟨fun hk => ?_, fun _ => h⟩
    exfalso
    have := hk.2.1 1 (by omega) (by omega)
    omega
  · have hf : Lib.firstT (bN l 0) = 2 := by unfold Lib.firstT; simp [show ¬ bN l 0 < 128 by omega, c0, h1]
    rw [hf] at h
    have hc : Lib.checkN l.length (bN l 1) b2 b3 (2 % 8) (Lib.accLo (2 / 16)) (Lib.accHi (2 / 16)) = if l.length < 2 ∨ bN l 1 < 128 ∨ 191 < bN l 1 then none else some 2 := by unfold Lib.checkN; simp [Lib.accLo, Lib.accHi]
    rw [hc] at h
    refine ⟨fun hk => ?_, fun hk => ?_⟩
    · have := hk.2.1 1 (by omega) (by omega)
      rw [if_neg (by omega)] at h
      exact h
    · by_cases hq : l.length < 2 ∨ bN l 1 < 128 ∨ 191 < bN l 1
      · rw [if_pos hq] at h; exact h
      · exfalso
        apply hk
        refine ⟨by omega, fun j hj1 hj2 => ?_, by omega, by omega, by omega⟩
        obtain rfl : j = 1 := by omega
        omega
theorem vd3 {l : List UInt8} (h0 : 224 ≤ bN l 0) (h1 : bN l 0 < 240) (hne : l ≠ []) : (okN 3 2048 224 l → Lib.validD l = Lib.validD (l.drop 3)) ∧ (¬ okN 3 2048 224 l → Lib.validD l = false) := by
  have h := Lib.validD_lead l hne (by unfold bN at h0; omega)
  have hb1 := bN_lt l 1
  have hb2 := bN_lt l 2
  unfold okN contN
  have ha : accN 224 l 3 = 64 * (64 * ((bN l 0 : Int) - 224) + bN l 1 - 128) + bN l 2 - 128 := rfl
  rw [ha]
  change Lib.validD l = match Lib.checkN l.length (bN l 1) (bN l 2) (bN l 3) (Lib.firstT (bN l 0) % 8) (Lib.accLo (Lib.firstT (bN l 0) / 16)) (Lib.accHi (Lib.firstT (bN l 0) / 16)) with | none => false | some k => Lib.validD (l.drop k) at h
  generalize bN l 3 = b3 at h
  obtain ⟨lo, hi, hf, hr⟩ : ∃ lo hi, Lib.checkN l.length (bN l 1) (bN l 2) b3 (Lib.firstT (bN l 0) % 8) (Lib.accLo (Lib.firstT (bN l 0) / 16)) (Lib.accHi (Lib.firstT (bN l 0) / 16)) = (if l.length < 3 ∨ bN l 1 < lo ∨ hi < bN l 1 ∨ bN l 2 < 128 ∨ 191 < bN l 2 then none else some 3) ∧ ((bN l 0 = 224 ∧ lo = 160 ∧ hi = 191) ∨ (bN l 0 = 237 ∧ lo = 128 ∧ hi = 159) ∨ (bN l 0 ≠ 224 ∧ bN l 0 ≠ 237 ∧ lo = 128 ∧ hi = 191)) := by
    by_cases c2 : bN l 0 = 224
    · exact ⟨160, 191, by rw [c2]; rfl, .inl ⟨c2, rfl, rfl⟩⟩
    by_cases c4 : bN l 0 = 237
    · exact ⟨128, 159, by rw [c4]; rfl, .inr (.inl ⟨c4, rfl, rfl⟩)⟩
    refine ⟨128, 191, ?_, .inr (.inr ⟨c2, c4, rfl, rfl⟩)⟩
    have hf : Lib.firstT (bN l 0) = 3 := by unfold Lib.firstT; simp [show ¬ bN l 0 < 128 by omega, show ¬ bN l 0 < 194 by omega, show ¬ bN l 0 < 224 by omega, c2, c4, h1]
    rw [hf]
    unfold Lib.checkN
    simp [Lib.accLo, Lib.accHi]
  rw [hf] at h
  refine ⟨fun hk => ?_, fun hk => ?_⟩
  · have k1 := hk.2.1 1 (by omega) (by omega)
    have k2 := hk.2.1 2 (by omega) (by omega)
    rw [if_neg (by omega)] at h
    exact h
  · by_cases hq : l.length < 3 ∨ bN l 1 < lo ∨ hi < bN l 1 ∨ bN l 2 < 128 ∨ 191 < bN l 2
    · rw [if_pos hq] at h; exact h
    · exfalso
      apply hk
      refine ⟨by omega, fun j hj1 hj2 => ?_, by omega, by omega, by omega⟩
      rcases (show j = 1 ∨ j = 2 by omega) with rfl | rfl <;> omega
theorem vd4 {l : List UInt8} (h0 : 240 ≤ bN l 0) (h1 : bN l 0 < 248) (hne : l ≠ []) : (okN 4 65536 240 l → Lib.validD l = Lib.validD (l.drop 4)) ∧ (¬ okN 4 65536 240 l → Lib.validD l = false) := by
  have h := Lib.validD_lead l hne (by unfold bN at h0; omega)
  have hb1 := bN_lt l 1
  have hb2 := bN_lt l 2
  have hb3 := bN_lt l 3
  unfold okN contN
  have ha : accN 240 l 4 = 64 * (64 * (64 * ((bN l 0 : Int) - 240) + bN l 1 - 128) + bN l 2 - 128) + bN l 3 - 128 := rfl
  rw [ha]
  change Lib.validD l = match Lib.checkN l.length (bN l 1) (bN l 2) (bN l 3) (Lib.firstT (bN l 0) % 8) (Lib.accLo (Lib.firstT (bN l 0) / 16)) (Lib.accHi (Lib.firstT (bN l 0) / 16)) with | none => false | some k => Lib.validD (l.drop k) at h
  by_cases c5 : 244 < bN l 0
  · have hf : Lib.firstT (bN l 0) = 241 := by unfold Lib.firstT; simp [show ¬ bN l 0 < 128 by omega, show ¬ bN l 0 < 194 by omega, show ¬ bN l 0 < 224 by omega, show ¬ bN l 0 = 224 by omega, show ¬ bN l 0 < 237 by omega, show ¬ bN l 0 = 237 by omega, show ¬ bN l 0 < 240 by omega, show ¬ bN l 0 = 240 by omega, show ¬ bN l 0 < 244 by omega, show ¬ bN l 0 = 244 by omega]
    rw [hf] at h
    have hc : Lib.checkN l.length (bN l 1) (bN l 2) (bN l 3) (241 % 8) (Lib.accLo (241 / 16)) (Lib.accHi (241 / 16)) = none := by unfold Lib.checkN; simp
    rw [hc] at h
    refine ⟨fun hk => ?_, fun _ => h⟩
    exfalso
    have k1 := hk.2.1 1 (by omega) (by omega)
    have k2 := hk.2.1 2 (by omega) (by omega)
    have k3 := hk.2.1 3 (by omega) (by omega)
    omega
  obtain ⟨lo, hi, hf, hr⟩ : ∃ lo hi, Lib.checkN l.length (bN l 1) (bN l 2) (bN l 3) (Lib.firstT (bN l 0) % 8) (Lib.accLo (Lib.firstT (bN l 0) / 16)) (Lib.accHi (Lib.firstT (bN l 0) / 16)) = (if l.length < 4 ∨ bN l 1 < lo ∨ hi < bN l 1 ∨ bN l 2 < 128 ∨ 191 < bN l 2 ∨ bN l 3 < 128 ∨ 191 < bN l 3 then none else some 4) ∧ ((bN l 0 = 240 ∧ lo = 144 ∧ hi = 191) ∨ (bN l 0 = 244 ∧ lo = 128 ∧ hi = 143) ∨ (bN l 0 ≠ 240 ∧ bN l 0 < 244 ∧ lo = 128 ∧ hi = 191)) := by
    by_cases c6 : bN l 0 = 240
    · exact ⟨144, 191, by rw [c6]; rfl, .inl ⟨c6, rfl, rfl⟩⟩
    by_cases c8 : bN l 0 = 244
    · exact ⟨128, 143, by rw [c8]; rfl, .inr (.inl ⟨c8, rfl, rfl⟩)⟩
    refine ⟨128, 191, ?_, .inr (.inr ⟨c6, by omega, rfl, rfl⟩)⟩
    have hf : Lib.firstT (bN l 0) = 4 := by unfold Lib.firstT; simp [show ¬ bN l 0 < 128 by omega, show ¬ bN l 0 < 194 by omega, show ¬ bN l 0 < 224 by omega, show ¬ bN l 0 = 224 by omega, show ¬ bN l 0 < 237 by omega, show ¬ bN l 0 = 237 by omega, show ¬ bN l 0 < 240 by omega, c6, show bN l 0 < 244 by omega]
    rw [hf]
    unfold Lib.checkN
    simp [Lib.accLo, Lib.accHi]
  rw [hf] at h
  refine ⟨fun hk => ?_, fun hk => ?_⟩
  · have k1 := hk.2.1 1 (by omega) (by omega)
    have k2 := hk.2.1 2 (by omega) (by omega)
    have k3 := hk.2.1 3 (by omega) (by omega)
    rw [if_neg (by omega)] at h
    exact h
  · by_cases hq : l.length < 4 ∨ bN l 1 < lo ∨ hi < bN l 1 ∨ bN l 2 < 128 ∨ 191 < bN l 2 ∨ bN l 3 < 128 ∨ 191 < bN l 3
    · rw [if_pos hq] at h; exact h
    · exfalso
      apply hk
      refine ⟨by omega, fun j hj1 hj2 => ?_, by omega, by omega, by omega⟩
      rcases (show j = 1 ∨ j = 2 ∨ j = 3 by omega) with rfl | rfl | rfl <;> omega
theorem vd_no {l : List UInt8} (h : (128 ≤ bN l 0 ∧ bN l 0 < 192) ∨ 248 ≤ bN l 0) (hne : l ≠ []) : Lib.validD l = false := by
  have h2 := Lib.validD_lead l hne (by unfold bN at h; omega)
  have hb := bN_lt l 0
  change Lib.validD l = match Lib.checkN l.length (bN l 1) (bN l 2) (bN l 3) (Lib.firstT (bN l 0) % 8) (Lib.accLo (Lib.firstT (bN l 0) / 16)) (Lib.accHi (Lib.firstT (bN l 0) / 16)) with | none => false | some k => Lib.validD (l.drop k) at h2
  have hf : Lib.firstT (bN l 0) = 241 := by
    unfold Lib.firstT
    rcases h with ⟨h, h'⟩ | h
    · simp [show ¬ bN l 0 < 128 by omega, show bN l 0 < 194 by omega]
    · simp [show ¬ bN l 0 < 128 by omega, show ¬ bN l 0 < 194 by omega, show ¬ bN l 0 < 224 by omega, show ¬ bN l 0 = 224 by omega, show ¬ bN l 0 < 237 by omega, show ¬ bN l 0 = 237 by omega, show ¬ bN l 0 < 240 by omega, show ¬ bN l 0 = 240 by omega, show ¬ bN l 0 < 244 by omega, show ¬ bN l 0 = 244 by omega]
  rw [hf] at h2
  have hc : Lib.checkN l.length (bN l 1) (bN l 2) (bN l 3) (241 % 8) (Lib.accLo (241 / 16)) (Lib.accHi (241 / 16)) = none := by unfold Lib.checkN; simp
  rw [hc] at h2
  exact h2
theorem vd_asc {l : List UInt8} (h : bN l 0 < 128) (hne : l ≠ []) : Lib.validD l = Lib.validD (l.drop 1) := by
  cases l with
  | nil => exact absurd rfl hne
  | cons b t => exact Lib.validD_cons b t (by simpa [bN] using h)
theorem bN_drop (s : ByteArray) (pos j : Nat) (h : pos + j < s.size) : bN (s.data.toList.drop pos) j = (s[pos + j]'h).toNat := by
  unfold bN
  rw [List.getD_eq_getElem?_getD, List.getElem?_drop, List.getElem?_eq_getElem (by simpa using h)]
  rfl
theorem index_sum (s : ByteArray) (pos j : Nat) (h : pos + j < s.size) (W : World) : (Instr.index 9 (.string s) (.int .i64 ((pos : Int) + (j : Int)))).run Tryz.prog W = .ok (.int .u8 (bN (s.data.toList.drop pos) j : Int)) W := by
  rw [bN_drop s pos j h, ← Int.natCast_add]
  exact index_atN s (pos + j) h W
theorem drop_len (s : ByteArray) (pos : Nat) : (s.data.toList.drop pos).length = s.size - pos := by rw [List.length_drop]; rfl
theorem accN_bd (off : Nat) (l : List UInt8) (m : Nat) (hm : m ≤ 4) (h0 : off ≤ bN l 0) (h1 : bN l 0 < off + 32) (hc : contN l m) : 0 ≤ accN off l m ∧ accN off l m < 8388608 := by
  have b1 : ∀ j, 1 ≤ j → j < m → 128 ≤ bN l j ∧ bN l j < 192 := hc
  rcases m with _ | _ | _ | _ | _ | m
  · exact ⟨Int.le_refl 0, by show (0 : Int) < 8388608; omega⟩
  · show 0 ≤ (bN l 0 : Int) - off ∧ (bN l 0 : Int) - off < 8388608; omega
  · have := b1 1 (by omega) (by omega); show 0 ≤ 64 * ((bN l 0 : Int) - off) + bN l 1 - 128 ∧ 64 * ((bN l 0 : Int) - off) + bN l 1 - 128 < 8388608; omega
  · have := b1 1 (by omega) (by omega); have := b1 2 (by omega) (by omega); show 0 ≤ 64 * (64 * ((bN l 0 : Int) - off) + bN l 1 - 128) + bN l 2 - 128 ∧ 64 * (64 * ((bN l 0 : Int) - off) + bN l 1 - 128) + bN l 2 - 128 < 8388608; omega
  · have := b1 1 (by omega) (by omega); have := b1 2 (by omega) (by omega); have := b1 3 (by omega) (by omega); show 0 ≤ 64 * (64 * (64 * ((bN l 0 : Int) - off) + bN l 1 - 128) + bN l 2 - 128) + bN l 3 - 128 ∧ 64 * (64 * (64 * ((bN l 0 : Int) - off) + bN l 1 - 128) + bN l 2 - 128) + bN l 3 - 128 < 8388608; omega
  · omega
def Rep8 (s : ByteArray) (pos : Nat) : Prop := Lib.validD s.data.toList = Lib.validD (s.data.toList.drop pos)
theorem cont_one (l : List UInt8) : contN l 1 := fun j h1 h2 => by omega
theorem cont_succ {l : List UInt8} {m : Nat} (h : contN l m) (h1 : 128 ≤ bN l m) (h2 : bN l m < 192) : contN l (m + 1) := fun j hj1 hj2 => by
  rcases Nat.lt_or_ge j m with hj | hj
  · exact h j hj1 hj
  · have : j = m := by omega
    rw [this]; exact ⟨h1, h2⟩
theorem accN_succ (off : Nat) (l : List UInt8) (m : Nat) (h : 1 ≤ m) : accN off l (m + 1) = 64 * accN off l m + bN l m - 128 := by
  obtain ⟨k, rfl⟩ : ∃ k, m = k + 1 := ⟨m - 1, by omega⟩
  rfl
set_option maxRecDepth 100000 in
set_option maxHeartbeats 16000000 in
theorem utf8_calls (s : ByteArray) (hs : s.size ≤ 9223372036854775000) (w : World) : Calls Tryz.prog 89 #[.string s] w fun e w' => e = .returned (.bool (Lib.validD s.data.toList)) ∧ w' = w := by
  have HV0 := Aside0.mk (show Rep8 s 0 by unfold Rep8; rw [List.drop_zero])
  go_enter Tryz.func89, Tryz.ntmps89
  go_wp2
  go_loopw [3] (fun i w' => w' = w ∧ ∃ pos : Nat, i = .int .i64 pos ∧ pos ≤ s.size ∧ Rep8 s pos) (fun i _ => s.size - (intOf i).toNat)
  case atStart => exact ⟨rfl, 0, rfl, by omega, HV0.out⟩
  case round =>
    obtain ⟨rfl, pos, rfl, hp, hrep⟩ := hrel
    have HR := Aside0.mk hrep
    clear hrep
    by_cases hlt : pos < s.size
    case neg =>
      obtain rfl : pos = s.size := by omega
      have HX := Aside0.mk (show Lib.validD s.data.toList = true by rw [HR.out, List.drop_of_length_le (by simp)]; rfl)
      go_wp2
      go_ret
      exact ⟨retB HX.out, rfl⟩
    have hll := drop_len s pos
    have hne : s.data.toList.drop pos ≠ [] := fun e => by have := congrArg List.length e; rw [hll] at this; simp at this; omega
    have hx0 : ∀ W : World, (Instr.index 9 (.string s) (.int .i64 (pos : Int))).run Tryz.prog W = .ok (.int .u8 (bN (s.data.toList.drop pos) 0 : Int)) W := fun W => by
      have := index_sum s pos 0 (by omega) W
      simpa using this
    have HXs := Aside0.mk (fun (j : Nat) (h : pos + j < s.size) => index_sum s pos j h)
    have hb0 := bN_lt (s.data.toList.drop pos) 0
    have HStep := Aside0.mk (show ∀ k, Lib.validD (s.data.toList.drop pos) = Lib.validD ((s.data.toList.drop pos).drop k) → Rep8 s (pos + k) from fun k h => by unfold Rep8; rw [HR.out, h, List.drop_drop])
    have HBad := Aside0.mk (show Lib.validD (s.data.toList.drop pos) = false → Lib.validD s.data.toList = false from fun h => by rw [HR.out, h])
    have HNe := Aside0.mk hne
    clear hne
    generalize s.data.toList.drop pos = l at *
    have HLl := Aside0.mk hll
    clear hll
    by_cases c1 : bN l 0 < 128
    · have HX := Aside0.mk (HStep.out 1 (vd_asc c1 HNe.out))
      have q : decide ((bN l 0 : Int) < 128) = true := decide_eq_true (by omega)
      clear c1
      generalize bN l 0 = c at *
      go_wp2
      go_roundw
      case rel => exact ⟨trivial, pos + 1, by go_num, by omega, HX.out⟩
      case measure => simp [intOf]; omega
    have q1 : decide ((bN l 0 : Int) < 128) = false := decide_eq_false (by omega)
    by_cases c2 : bN l 0 < 192 ∨ 248 ≤ bN l 0
    · have HX := Aside0.mk (HBad.out (vd_no (by omega) HNe.out))
      generalize bN l 0 = c at *
      rcases c2 with c2 | c2
      · have q2 : decide ((c : Int) ≥ 192) = false := decide_eq_false (by omega)
        have q3 : decide ((c : Int) ≥ 224) = false := decide_eq_false (by omega)
        have q4 : decide ((c : Int) ≥ 240) = false := decide_eq_false (by omega)
        go_wp2
        go_ret
        exact ⟨retB HX.out, rfl⟩
      · have q2 : decide ((c : Int) ≥ 192) = true := decide_eq_true (by omega)
        have q3 : decide ((c : Int) < 224) = false := decide_eq_false (by omega)
        have q4 : decide ((c : Int) ≥ 224) = true := decide_eq_true (by omega)
        have q5 : decide ((c : Int) < 240) = false := decide_eq_false (by omega)
        have q6 : decide ((c : Int) ≥ 240) = true := decide_eq_true (by omega)
        have q7 : decide ((c : Int) < 248) = false := decide_eq_false (by omega)
        go_wp2
        go_ret
        exact ⟨retB HX.out, rfl⟩
    have hcls : ∃ n least off : Nat, ((n = 2 ∧ least = 128 ∧ off = 192 ∧ (192 ≤ bN l 0 ∧ bN l 0 < 224)) ∨ (n = 3 ∧ least = 2048 ∧ off = 224 ∧ (224 ≤ bN l 0 ∧ bN l 0 < 240)) ∨ (n = 4 ∧ least = 65536 ∧ off = 240 ∧ (240 ≤ bN l 0 ∧ bN l 0 < 248))) ∧ ((okN n least off l → Lib.validD l = Lib.validD (l.drop n)) ∧ (¬ okN n least off l → Lib.validD l = false)) := by
      by_cases d1 : bN l 0 < 224
      · exact ⟨2, 128, 192, .inl ⟨rfl, rfl, rfl, by omega, d1⟩, vd2 (by omega) d1 HNe.out⟩
      by_cases d2 : bN l 0 < 240
      · exact ⟨3, 2048, 224, .inr (.inl ⟨rfl, rfl, rfl, by omega, d2⟩), vd3 (by omega) d2 HNe.out⟩
      exact ⟨4, 65536, 240, .inr (.inr ⟨rfl, rfl, rfl, by omega, by omega⟩), vd4 (by omega) (by omega) HNe.out⟩
    obtain ⟨n, least, off, hcl, hval⟩ := hcls
    have HVal := Aside0.mk hval
    have hoff : off ≤ bN l 0 ∧ bN l 0 < off + 32 := by omega
    have hn : 2 ≤ n ∧ n ≤ 4 := by omega
    have hac1 : accN off l 1 = (bN l 0 : Int) - off := rfl
    have HBd := Aside0.mk (fun m (hm : m ≤ n) (hc : contN l m) => accN_bd off l m (by omega) hoff.1 hoff.2 hc)
    clear hval c2
    go_upto_if 19 with fail
    go_cut [3, 5, 6, 7] (fun i a b c w' => wr = w' ∧ i = .int .i64 pos ∧ a = .int .i64 n ∧ b = .int .i64 least ∧ c = .int .i64 (accN off l 1))
    case first =>
      have HAc := Aside0.mk hac1
      clear HBd HVal hac1 HXs
      rcases hcl with ⟨rfl, rfl, rfl, k1, k2⟩ | ⟨rfl, rfl, rfl, k1, k2⟩ | ⟨rfl, rfl, rfl, k1, k2⟩
      · have q2 : decide ((bN l 0 : Int) ≥ 192) = true := decide_eq_true (by omega)
        have q3 : decide ((bN l 0 : Int) < 224) = true := decide_eq_true (by omega)
        generalize bN l 0 = c at *
        go_wp2
        go_meet
        case rel => exact ⟨rfl, rfl, rfl, rfl, by rw [HAc.out]; rfl⟩
      · have q2 : decide ((bN l 0 : Int) ≥ 192) = true := decide_eq_true (by omega)
        have q3 : decide ((bN l 0 : Int) < 224) = false := decide_eq_false (by omega)
        have q4 : decide ((bN l 0 : Int) ≥ 224) = true := decide_eq_true (by omega)
        have q5 : decide ((bN l 0 : Int) < 240) = true := decide_eq_true (by omega)
        generalize bN l 0 = c at *
        go_wp2
        go_meet
        case rel => exact ⟨rfl, rfl, rfl, rfl, by rw [HAc.out]; rfl⟩
      · have q2 : decide ((bN l 0 : Int) ≥ 192) = true := decide_eq_true (by omega)
        have q3 : decide ((bN l 0 : Int) < 224) = false := decide_eq_false (by omega)
        have q4 : decide ((bN l 0 : Int) ≥ 224) = true := decide_eq_true (by omega)
        have q5 : decide ((bN l 0 : Int) < 240) = false := decide_eq_false (by omega)
        have q6 : decide ((bN l 0 : Int) ≥ 240) = true := decide_eq_true (by omega)
        have q7 : decide ((bN l 0 : Int) < 248) = true := decide_eq_true (by omega)
        generalize bN l 0 = c at *
        go_wp2
        go_meet
        case rel => exact ⟨rfl, rfl, rfl, rfl, by rw [HAc.out]; rfl⟩
    obtain ⟨rfl, rfl, rfl, rfl, rfl⟩ := hcut
    clear hcl hx0 q1 hac1 hoff
    by_cases hlen : n ≤ l.length
    case neg =>
      have HX := Aside0.mk (HBad.out (HVal.out.2 (fun hk => hlen hk.1)))
      have hgt : decide ((pos : Int) + (n : Int) > (s.size : Int)) = true := decide_eq_true (by have := HLl.out; omega)
      clear hlen
      go_wp2
      go_ret
      exact ⟨retB HX.out, rfl⟩
    have hle : pos + n ≤ s.size := by have := HLl.out; omega
    have hgt : decide ((pos : Int) + (n : Int) > (s.size : Int)) = false := decide_eq_false (by omega)
    go_upto_block 2 with fail
    clear hgt
    go_wp2
    go_loopw [7, 8] (fun v k w' => w' = wr ∧ ∃ m : Nat, 1 ≤ m ∧ m ≤ n ∧ k = .int .i64 m ∧ v = .int .i64 (accN off l m) ∧ contN l m) (fun _ k _ => n - (intOf k).toNat)
    case atStart => exact ⟨rfl, 1, by omega, by omega, rfl, rfl, cont_one l⟩
    case round =>
      obtain ⟨rfl, m, hm1, hm2, rfl, rfl, hcont⟩ := hrel
      have hbd := HBd.out m hm2 hcont
      by_cases hmn : m < n
      · have hx := HXs.out m (by omega)
        have hb := bN_lt l m
        by_cases k1 : 128 ≤ bN l m
        case neg =>
          have q1 : decide ((bN l m : Int) < 128) = true := decide_eq_true (by omega)
          have HX := Aside0.mk (HBad.out (HVal.out.2 (fun hk => k1 (hk.2.1 m hm1 hmn).1)))
          clear hcont k1
          generalize accN off l m = v at *
          generalize bN l m = d at *
          go_wp2
          go_ret
          exact ⟨retB HX.out, rfl⟩
        have q1 : decide ((bN l m : Int) < 128) = false := decide_eq_false (by omega)
        by_cases k2 : bN l m < 192
        case neg =>
          have q2 : decide ((bN l m : Int) ≥ 192) = true := decide_eq_true (by omega)
          have HX := Aside0.mk (HBad.out (HVal.out.2 (fun hk => k2 (hk.2.1 m hm1 hmn).2)))
          clear hcont k1 k2
          generalize accN off l m = v at *
          generalize bN l m = d at *
          go_wp2
          go_ret
          exact ⟨retB HX.out, rfl⟩
        have q2 : decide ((bN l m : Int) ≥ 192) = false := decide_eq_false (by omega)
        have HN := Aside0.mk (cont_succ hcont k1 k2)
        have HA := Aside0.mk (accN_succ off l m hm1)
        clear hcont
        generalize hv : accN off l m = v at *
        generalize hd : bN l m = d at *
        clear hv hd
        have hw1 : wrap64 (64 * v) = 64 * v := by unfold wrap64; omega
        have hw2 : wrap64 (64 * v + (d : Int)) = 64 * v + d := by unfold wrap64; omega
        have hw3 : wrap64 (64 * v + (d : Int) - 128) = 64 * v + d - 128 := by unfold wrap64; omega
        go_wp2
        go_roundw
        case rel => exact ⟨trivial, m + 1, by omega, by omega, by go_num, by rw [HA.out], HN.out⟩
        case measure => simp [intOf]; omega
      · obtain rfl : m = n := by omega
        have HC := Aside0.mk hcont
        by_cases j1 : (least : Int) ≤ accN off l m
        case neg =>
          have q1 : decide (accN off l m < (least : Int)) = true := decide_eq_true (by omega)
          have HX := Aside0.mk (HBad.out (HVal.out.2 (fun hk => j1 hk.2.2.1)))
          clear hcont j1
          generalize accN off l m = v at *
          go_wp2
          go_ret
          exact ⟨retB HX.out, rfl⟩
        have q1 : decide (accN off l m < (least : Int)) = false := decide_eq_false (by omega)
        by_cases j2 : accN off l m ≤ 1114111
        case neg =>
          have q2 : decide (accN off l m > 1114111) = true := decide_eq_true (by omega)
          have HX := Aside0.mk (HBad.out (HVal.out.2 (fun hk => j2 hk.2.2.2.1)))
          clear hcont j1 j2
          generalize accN off l m = v at *
          go_wp2
          go_ret
          exact ⟨retB HX.out, rfl⟩
        have q2 : decide (accN off l m > 1114111) = false := decide_eq_false (by omega)
        by_cases j3 : 55296 ≤ accN off l m ∧ accN off l m ≤ 57343
        · have q3 : decide (accN off l m ≥ 55296) = true := decide_eq_true (by omega)
          have q4 : decide (accN off l m ≤ 57343) = true := decide_eq_true (by omega)
          have HX := Aside0.mk (HBad.out (HVal.out.2 (fun hk => hk.2.2.2.2 j3)))
          clear hcont j1 j2 j3
          generalize accN off l m = v at *
          go_wp2
          go_ret
          exact ⟨retB HX.out, rfl⟩
        · have HX := Aside0.mk (HStep.out m (HVal.out.1 ⟨by omega, HC.out, j1, j2, j3⟩))
          have hq : decide (accN off l m ≥ 55296) = false ∨ (decide (accN off l m ≥ 55296) = true ∧ decide (accN off l m ≤ 57343) = false) := by
            by_cases h : 55296 ≤ accN off l m
            · exact .inr ⟨decide_eq_true h, decide_eq_false (fun h' => j3 ⟨h, h'⟩)⟩
            · exact .inl (decide_eq_false h)
          clear hcont j1 j2 j3
          generalize accN off l m = v at *
          have hw4 : wrap64 ((pos : Int) + (m : Int)) = (pos : Int) + (m : Int) := by unfold wrap64; omega
          rcases hq with q3 | ⟨q3, q4⟩
          all_goals
            go_wp2
            go_roundw
            case rel => exact ⟨trivial, pos + m, by go_num, by omega, HX.out⟩
            case measure => simp [intOf]; omega
end Go.Proofs.YtmdofdaiepilbaaGreatDoor
