/- The law CrcPuts comes to true for every two slices of bytes. Conditions: the slices read as bytes. -/
import Derived.Test.YtjkgafijifkfcaaTakes
namespace Go.Proofs.Ytjkgafijifkfcaa
open Go.RowKit Go.Proofs.YtjkgafijifkfcaaW.PrintWords
set_option linter.unusedVariables false
set_option linter.unusedSimpArgs false

theorem put_good (l : List Int) : goodB (l ++ le4 (Crc.more 0 l)) = true := by
  have h : own (l ++ le4 (Crc.more 0 l)) = l := by unfold own; simp [le4]
  unfold goodB
  rw [h]
  simp
theorem put_own (l : List Int) : own (l ++ le4 (Crc.more 0 l)) = l := by unfold own; simp [le4]
theorem put_len (l : List Int) : (l ++ le4 (Crc.more 0 l)).length = l.length + 4 := by simp [le4]
theorem put_len3 (x y : List Int) (s : Int) : (x ++ y ++ le4 s).length = x.length + y.length + 4 := by simp [le4]; omega
theorem take_put (A : Option Addr) (c n : Nat) (l : List Int) (w : World) (hr : Kd.C (Kd.int .u8) w A n (l ++ le4 (Crc.more 0 l))) (hc : n ≤ c) (hb : Crc.Bytes l) (hl : l.length ≤ 99996) :
    Calls Try.prog 33 #[.slice A n c] w fun e w' => ∃ v, e = .returned (.tuple #[v, .int .i64 0]) ∧ Kd.R (Kd.int .u8) 5 w' w.heap.size (fun _ => True) v l ∧ Below w.heap.size w w' := by
  obtain rfl := (C_cells hr).1
  have := take_good A c _ w hr hc (append_bytes hb (le4_bytes (Crc.more_range 0 l))) (by rw [put_len]; omega) (by rw [put_len]; omega) (put_good l)
  rwa [put_own] at this
theorem putN (A : Option Addr) (ca na : Nat) (a : List Int) (B : Option Addr) (cb nb : Nat) (b : List Int) (w : World) (hra : Kd.C (Kd.int .u8) w A na a) (hca : na ≤ ca) (hrb : Kd.C (Kd.int .u8) w B nb b) (hcb : nb ≤ cb) (hbb : Crc.Bytes b)
    (hl : na + nb ≤ 1000000) : Calls Try.prog 32 #[.slice A na ca, .slice B nb cb] w (Fresh w (a ++ b ++ le4 (Crc.more 0 b))) := by
  obtain rfl := (C_cells hra).1
  obtain rfl := (C_cells hrb).1
  exact put_calls A ca a B cb b w hra hca hrb hcb hbb hl

set_option maxHeartbeats 4000000 in
theorem puts_any (w : World) (A : Option Addr) (ca : Nat) (a : List Int) (hra : Kd.C (Kd.int .u8) w A a.length a) (hca : a.length ≤ ca) (hba : Crc.Bytes a)
    (B : Option Addr) (cb : Nat) (b : List Int) (hrb : Kd.C (Kd.int .u8) w B b.length b) (hcb : b.length ≤ cb) (hbb : Crc.Bytes b) :
    Calls Try.prog 11 #[.slice A a.length ca, .slice B b.length cb] w fun e w' => e = .returned (.bool true) ∧ Below w.heap.size w w' := by
  have HFa := Aside0.mk (few_calls A ca a w hca hra.2.1)
  have HFb := Aside0.mk (few_calls B cb b w hcb hrb.2.1)
  have HA : Aside0 (Kd.C (Kd.int .u8) w A (a.take 200).length (a.take 200)) := ⟨C_take hra 200⟩
  have HB : Aside0 (Kd.C (Kd.int .u8) w B (b.take 200).length (b.take 200)) := ⟨C_take hrb 200⟩
  have HBB : Aside0 (Crc.Bytes (b.take 200)) := ⟨Bytes_take hbb 200⟩
  have la : (a.take 200).length ≤ 200 := by simp; omega
  have lb : (b.take 200).length ≤ 200 := by simp; omega
  have lac : (a.take 200).length ≤ ca := by simp; omega
  have lbc : (b.take 200).length ≤ cb := by simp; omega
  clear hra hrb hba hbb hca hcb
  generalize a.take 200 = x at *
  generalize b.take 200 = y at *
  go_enter Try.func11, Try.ntmps11
  go_wp2_with (first
    | (go_at_call 15; (with_reducible refine HFa.out.mono ?_); rintro e w1 ⟨rfl, rfl⟩)
    | (go_at_call 15; (with_reducible refine HFb.out.mono ?_); rintro e w1 ⟨rfl, rfl⟩)
    | (go_at_call 32; (with_reducible refine (putN A ca x.length x B cb y.length y _ HA.out lac HB.out lbc HBB.out (by omega)).mono ?_); rintro e w1 ⟨v1, rfl, ho1, hb1⟩; obtain ⟨A1, c1, rfl, hc1, hC1⟩ := Kd.R_reads ho1; rw [put_len3] at hc1 hC1 ⊢; have HC1 := Aside0.mk hC1; clear ho1 hC1)
    | (go_at_call 32; (with_reducible refine (put_nil B cb y.length y _ (Kd.C_below HB.out hb1) lbc HBB.out (by omega)).mono ?_); rintro e w2 ⟨v2, rfl, ho2, hb2⟩; obtain ⟨A2, c2, rfl, hc2, hC2⟩ := Kd.R_reads ho2; rw [put_len] at hc2 hC2 ⊢; have HC2 := Aside0.mk hC2; clear ho2 hC2)
    | (go_at_call 33; (with_reducible refine (take_put A2 c2 _ y _ HC2.out hc2 HBB.out (by omega)).mono ?_); rintro e w3 ⟨v3, rfl, ho3, hb3⟩; obtain ⟨A3, c3, rfl, hc3, hC3⟩ := Kd.R_reads ho3; have HC3 := Aside0.mk hC3; clear ho3 hC3))
  have HV : Aside0 (∀ W, Below w3.heap.size w3 W → (convert 22 9 (.slice A1 (x.length + y.length + 4) c1)).run Try.prog W = .ok (.string (strOfNums (x ++ y ++ le4 (Crc.more 0 y)))) W ∧ (convert 22 9 (.slice A3 y.length c3)).run Try.prog W = .ok (.string (strOfNums y)) W ∧ (convert 22 9 (.slice B y.length cb)).run Try.prog W = .ok (.string (strOfNums y)) W) :=
    ⟨fun W h => ⟨conv_bytes (Kd.C_below HC1.out (below_step (below_step hb2 hb3) h)), conv_bytes (Kd.C_below HC3.out h), conv_bytes (Kd.C_below HB.out (below_step (below_step (below_step hb1 hb2) hb3) h))⟩⟩
  have HBel := Aside0.mk (below_step (below_step hb1 hb2) hb3)
  clear hb1 hb2 hb3 HFa HFb HC1 HC2 HC3
  have hv0 := HV.out w3.drew (Below.drew (Below.refl _ _))
  go_region_with (first
    | (go_at_call 34; (with_reducible refine (rput_calls A ca x.length x B cb y.length y _ (Kd.C_below HA.out (below_step HBel.out (Below.drew (Below.refl _ _)))) (Kd.C_below HB.out (below_step HBel.out (Below.drew (Below.refl _ _)))) HBB.out (by omega)).mono ?_); rintro e w4 ⟨v4, rfl, ho4, hb4⟩; obtain ⟨A4, c4, rfl, hc4, hC4⟩ := Kd.R_reads ho4; rw [put_len3] at hC4 ⊢; have hcv := conv_bytes (c := c4) hC4; have HB4 := Aside0.mk (below_step (Below.drew (Below.refl _ _)) hb4); have hv4 := HV.out _ HB4.out; clear ho4 hC4 hb4)
    | (go_at_call 20; (with_reducible refine (lives_calls _).mono ?_); rintro e w5 ⟨rfl, hb5⟩; have HB5 := Aside0.mk (below_step HBel.out (below_step HB4.out hb5)); clear hb5))
  all_goals
    go_wp2
    go_ret
    exact ⟨rfl, HB5.out⟩
end Go.Proofs.Ytjkgafijifkfcaa
