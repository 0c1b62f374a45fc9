/- The reference's Put and Take: the same bytes, and the same answers. Conditions: the slices read as bytes; at most 100000 of them. -/
import Derived.Test.YtjkgafijifkfcaaCrcTake
namespace Go.Proofs.Ytjkgafijifkfcaa
open Go.RowKit Go.Proofs.YtjkgafijifkfcaaW.PrintWords
set_option linter.unusedVariables false
set_option linter.unusedSimpArgs false

theorem C_lit (W : World) (l : List Int) (hl : l.length ≤ 9223372036854775807) : Kd.C (Kd.int .u8) (W.alloc (.cells (l.map (Value.int .u8)).toArray 5)) (some ⟨W.heap.size, 0, none⟩) l.length l := by
  refine C_bytes rfl hl fun _ => ⟨_, rfl, fun j hj => ?_⟩
  rw [show (⟨W.heap.size, 0, none⟩ : Addr).add j = ⟨W.heap.size, j, none⟩ from add_plain _ _, cell_of_row _ _ j _ 5 (0, 0) (heap_alloc_new _ _)]
  simp [List.getD_eq_getElem?_getD, hj]

set_option maxHeartbeats 4000000 in
theorem rput_calls (A : Option Addr) (ca na : Nat) (a : List Int) (B : Option Addr) (cb nb : Nat) (b : List Int) (w : World) (hra : Kd.C (Kd.int .u8) w A na a) (hrb : Kd.C (Kd.int .u8) w B nb b) (hbb : Crc.Bytes b)
    (hl : na + nb ≤ 1000000) :
    Calls Try.prog 34 #[.slice A na ca, .slice B nb cb] w (Fresh w (a ++ b ++ le4 (Crc.more 0 b))) := by
  have HA := Aside0.mk hra
  have HB := Aside0.mk hrb
  have HBB := Aside0.mk hbb
  have HLA := Aside0.mk (C_cells hra).1
  have HLB := Aside0.mk (C_cells hrb).1
  have hrng := Crc.more_range 0 b
  have hs0 : 0 ≤ Crc.more 0 b := hrng.1
  have hs1 : Crc.more 0 b < 4294967296 := hrng.2
  clear hra hrb hbb hrng
  have HSum : Aside0 (∀ W, Below w.heap.size w W → Calls Try.prog 16 #[.slice B nb cb] W fun e w' => e = .returned (.int .i64 (Crc.more 0 b)) ∧ W = w') := ⟨fun W h => by
    have := ref_Sum_calls B cb b W (by rw [HLB.out]; exact Kd.C_below HB.out h) HBB.out
    rwa [HLB.out] at this⟩
  generalize Crc.more 0 b = s at *
  have HC4 := Aside0.mk (fun W : World => C_lit W (le4 s) (by simp [le4]))
  go_enter Try.func34, Try.ntmps34
  go_wp2_with (first
    | (refine appN w.heap.size rfl (.tmp 7) (.tmp 8) rfl _ [] a A na ca rfl rfl (Kd.R_nil _ _ _ _ _) HA.out (Below.refl _ _) (Nat.le_refl _) (by simp; omega) ?_; intro v1 w1 ho1 hb1 hg1; have HO1 := Aside0.mk ho1; have HW1 := Aside0.mk hb1; clear ho1 hb1 hg1)
    | (refine appN w.heap.size rfl (.tmp 10) (.tmp 11) rfl _ a b B nb cb rfl rfl (by have h := HO1.out; rwa [List.nil_append] at h) (Kd.C_below HB.out HW1.out) HW1.out HW1.out.size (by rw [HLA.out]; omega) ?_; intro v2 w2 ho2 hb2 hg2; have HO2 := Aside0.mk ho2; have HW2 := Aside0.mk hb2; clear ho2 hb2 hg2)
    | (go_at_call 16; (with_reducible refine (HSum.out _ HW2.out).mono ?_); rintro e w3 ⟨rfl, rfl⟩)
    | (refine appN w.heap.size rfl (.tmp 15) (.tmp 30) rfl _ (a ++ b) (le4 s) (some ⟨w2.heap.size, 0, none⟩) 4 4 rfl rfl (Kd.R_below HO2.out (below_alloc (Below.refl _ _) _)) (HC4.out w2) (HW2.out.trans ((below_alloc (Below.refl _ _) _).mono HW2.out.size)) (by simp; have := HW2.out.size; omega) (by rw [List.length_append, HLA.out, HLB.out]; omega) ?_; intro v4 w4 ho4 hb4 hg4))
  go_ret
  exact ⟨_, rfl, by assumption, by assumption⟩

/-- What the reference's Take answers of four bytes or more. -/
def RTook (w : World) (A : Option Addr) (c : Nat) (l : List Int) (e : Ending) (w' : World) : Prop :=
  e = .returned (.tuple #[(if goodB l then .slice A (l.length - 4) c else .slice none 0 0), .int .i64 (if goodB l then 0 else 3)]) ∧ Below w.heap.size w w'
theorem RTook.yes {w w' : World} {A : Option Addr} {c m : Nat} {l : List Int} (hg : goodB l = true) (hm : l.length = m + 4) (hb : Below w.heap.size w w') : RTook w A c l (.returned (.tuple #[.slice A m c, .int .i64 0])) w' :=
  ⟨by rw [hg, hm]; rfl, hb⟩
theorem RTook.no {w w' : World} {A : Option Addr} {c : Nat} {l : List Int} (hg : goodB l = false) (hb : Below w.heap.size w w') : RTook w A c l (.returned (.tuple #[.slice none 0 0, .int .i64 3])) w' :=
  ⟨by rw [hg]; rfl, hb⟩
theorem rput_nil (B : Option Addr) (cb n : Nat) (b : List Int) (w : World) (hrb : Kd.C (Kd.int .u8) w B n b) (hbb : Crc.Bytes b) (hl : n ≤ 1000000) :
    Calls Try.prog 34 #[.slice none 0 0, .slice B n cb] w (Fresh w (b ++ le4 (Crc.more 0 b))) := by
  have := rput_calls none 0 0 [] B cb n b w (Kd.C_nil _ _) hrb hbb (by omega)
  simpa using this
set_option maxHeartbeats 1000000 in
theorem rtake_short (A : Option Addr) (c : Nat) (l : List Int) (w : World) (h : l.length < 4) :
    Calls Try.prog 35 #[.slice A l.length c] w fun e w' => e = .returned (.tuple #[.slice none 0 0, .int .i64 4]) ∧ w = w' := by
  have h1 : (l.length : Int) < 4 := by omega
  go_enter Try.func35, Try.ntmps35
  go_wp2
  go_ret2
  exact ⟨rfl, rfl⟩
set_option maxHeartbeats 4000000 in
theorem rtake_long (A : Option Addr) (c : Nat) (l : List Int) (w : World) (hr : Kd.C (Kd.int .u8) w A l.length l) (hc : l.length ≤ c) (hb : Crc.Bytes l) (h : 4 ≤ l.length) (hl : l.length ≤ 100000) :
    Calls Try.prog 35 #[.slice A l.length c] w (RTook w A c l) := by
  obtain ⟨m, hm⟩ : ∃ m, l.length = m + 4 := ⟨l.length - 4, by omega⟩
  have ho : own l = l.take m := by unfold own; rw [hm]; rfl
  have HT := Aside0.mk (C_takeN hr m (by omega))
  have HR := Aside0.mk hr
  have HB := Aside0.mk (Bytes_take hb m)
  have HLB := Aside0.mk hb
  have HOWN := Aside0.mk ho
  have HM := Aside0.mk hm
  have hmc : (m : Int) ≤ (c : Int) := by omega
  have hm0 : (0 : Int) ≤ (m : Int) := by omega
  have hmb : m ≤ 99996 := by omega
  have hpl : (l.take m).length = m := by simp; omega
  rw [hm] at HR ⊢
  clear hr hb h hl hm ho
  generalize l.take m = p at *
  have HLen : Aside0 ((p ++ le4 (Crc.more 0 p)).length = m + 4) := ⟨by simp [le4]; omega⟩
  have HRl : Aside0 (∀ W, Below w.heap.size w W → (convert 22 9 (.slice A (m + 4) c)).run Try.prog W = .ok (.string (strOfNums l)) W) := ⟨fun W h => conv_bytes (Kd.C_below HR.out h)⟩
  have hgb : ((strOfNums (p ++ le4 (Crc.more 0 p))).toList == (strOfNums l).toList) = goodB l := by
    rw [str_beq (append_bytes HB.out (le4_bytes (Crc.more_range 0 p))) HLB.out]
    unfold goodB
    rw [HOWN.out]
  clear hpl
  cases hg : goodB l with
  | true =>
    rw [hg] at hgb
    replace hg := Aside0.mk hg
    go_enter Try.func35, Try.ntmps35
    go_wp2
    have hcl0 := HRl.out w.drew (Below.drew (Below.refl _ _))
    go_region_with (first
      | (go_at_call 34; (with_reducible refine (rput_nil A c m p _ (Kd.C_below HT.out (Below.drew (Below.refl _ _))) HB.out (by omega)).mono ?_); rintro e w2 ⟨v2, rfl, ho2, hb2⟩; obtain ⟨A2, c2, rfl, hc2, hC2⟩ := Kd.R_reads ho2; rw [HLen.out] at hC2 ⊢; have hcv := conv_bytes (c := c2) hC2; have hcl1 := HRl.out _ (below_step (Below.drew (Below.refl _ _)) hb2); have HO2 := Aside0.mk (below_step (Below.drew (Below.refl _ _)) hb2); clear ho2 hC2 hb2))
    all_goals
      go_wp2
      go_ret2
      exact RTook.yes hg.out HM.out (by first | exact HO2.out | assumption)
  | false =>
    rw [hg] at hgb
    replace hg := Aside0.mk hg
    go_enter Try.func35, Try.ntmps35
    go_wp2
    have hcl0 := HRl.out w.drew (Below.drew (Below.refl _ _))
    go_region_with (first
      | (go_at_call 34; (with_reducible refine (rput_nil A c m p _ (Kd.C_below HT.out (Below.drew (Below.refl _ _))) HB.out (by omega)).mono ?_); rintro e w2 ⟨v2, rfl, ho2, hb2⟩; obtain ⟨A2, c2, rfl, hc2, hC2⟩ := Kd.R_reads ho2; rw [HLen.out] at hC2 ⊢; have hcv := conv_bytes (c := c2) hC2; have hcl1 := HRl.out _ (below_step (Below.drew (Below.refl _ _)) hb2); have HO2 := Aside0.mk (below_step (Below.drew (Below.refl _ _)) hb2); clear ho2 hC2 hb2))
    all_goals
      go_wp2
      go_ret2
      exact RTook.no hg.out (by first | exact HO2.out | assumption)
end Go.Proofs.Ytjkgafijifkfcaa
