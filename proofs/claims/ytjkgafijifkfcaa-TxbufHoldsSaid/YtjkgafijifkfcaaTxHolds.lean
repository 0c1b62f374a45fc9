/- The law TxbufHolds comes to true for every three numbers. Conditions: none. -/
import Derived.Test.YtjkgafijifkfcaaTxFill
import Derived.Deep.CutRange
import Derived.Deep.CutBlock
import Derived.Deep.DeepCutAuto
namespace Go.Proofs.Ytjkgafijifkfcaa
open Go.RowKit Go.Proofs.YtjkgafijifkfcaaW.PrintWords
set_option linter.unusedVariables false
set_option linter.unusedSimpArgs false
set_option maxRecDepth 100000 in
set_option maxHeartbeats 4000000 in
theorem holds_law (w : World) (a : Int) (ha : -9223372036854775808 ≤ a) (ha' : a ≤ 9223372036854775807) (b : Int) (hb : -9223372036854775808 ≤ b) (hb' : b ≤ 9223372036854775807) (c : Int) (hc : -9223372036854775808 ≤ c) (hc' : c ≤ 9223372036854775807) :
    Calls Try.prog 7 #[.int .i64 a, .int .i64 b, .int .i64 c] w fun e w' => e = .returned (.bool true) ∧ Below w.heap.size w w' := by
  go_enter Try.func7, Try.ntmps7
  go_upto_if 17 with fail
  go_cut [0] (fun s0 w' => w = w' ∧ s0 = .int .i64 (signed a))
  case first =>
    by_cases h : a < 0
    · go_wp2
      go_meet
      case rel => exact ⟨rfl, by unfold signed; rw [if_pos (by omega)]⟩
    · go_wp2
      go_meet
      case rel => exact ⟨rfl, by unfold signed; rw [if_neg (by omega)]⟩
  obtain ⟨rfl, rfl⟩ := hcut
  go_upto_if 22 with fail
  go_cut [1] (fun s1 w' => w = w' ∧ s1 = .int .i64 (signed b))
  case first =>
    by_cases h : b < 0
    · go_wp2
      go_meet
      case rel => exact ⟨rfl, by unfold signed; rw [if_pos (by omega)]⟩
    · go_wp2
      go_meet
      case rel => exact ⟨rfl, by unfold signed; rw [if_neg (by omega)]⟩
  obtain ⟨rfl, rfl⟩ := hcut
  go_upto_if 27 with fail
  go_cut [2] (fun s2 w' => w = w' ∧ s2 = .int .i64 (signed c))
  case first =>
    by_cases h : c < 0
    · go_wp2
      go_meet
      case rel => exact ⟨rfl, by unfold signed; rw [if_pos (by omega)]⟩
    · go_wp2
      go_meet
      case rel => exact ⟨rfl, by unfold signed; rw [if_neg (by omega)]⟩
  obtain ⟨rfl, rfl⟩ := hcut
  obtain ⟨ga, ga'⟩ := signed_range a ha ha'
  obtain ⟨gb, gb'⟩ := signed_range b hb hb'
  obtain ⟨gc, gc'⟩ := signed_range c hc hc'
  generalize signed a = a at *
  generalize signed b = b at *
  generalize signed c = c at *
  obtain ⟨L, hL, hL1, hL2⟩ : ∃ L : Nat, 1 + a % 20 = L ∧ 1 ≤ L ∧ L ≤ 20 := ⟨(1 + a % 20).toNat, by omega, by omega, by omega⟩
  obtain ⟨N, hN, hN1⟩ : ∃ N : Nat, b % 31 = N ∧ N ≤ 30 := ⟨(b % 31).toNat, by omega, by omega⟩
  have P1 := Aside0.mk (fun W (h : Buf w.heap.size W w.heap.size L (-1) []) (hB : w.heap.size ≤ W.heap.size) => put_plain w.heap.size w.heap.size L (-1) [] 2 c ⟨#[]⟩ 0 ⟨#[]⟩ W ⟨c, [], [], false, 0⟩ rfl h hB (by simp))
  go_upto_block 0 with (first
    | (go_at_call 21; (with_reducible refine (txnew_pos _ _ (by omega)).mono ?_); rintro e w1 ⟨rfl, rfl⟩; have HB1 := Aside0.mk (buf_new w (L : Int)))
    | (go_at_call 22; (with_reducible refine (P1.out _ HB1.out (by simp)).mono ?_); rintro e w2 ht; obtain ⟨A2, c2, rfl, hC2, hb2, hf2⟩ := told_row ht; have HB2 := Aside0.mk hb2; have HF2 := Aside0.mk hf2; clear hb2 hf2 ht hC2))
  clear P1 HB1
  go_wp2
  go_loopw [8] (fun i wr => ∃ k : Nat, k ≤ N ∧ i = .int .i64 k ∧ Buf w.heap.size wr w.heap.size L c (fillL (fun i => plainEv 6 i ⟨#[]⟩ 2 ⟨#[116]⟩) L k) ∧ FrameB w.heap.size w.heap.size (w.alloc (.cells #[.int .i64 L, .int .i64 (-1), .slice none 0 0] 73)) wr) (fun i _ => N - (intOf i).toNat)
  case atStart => exact ⟨0, by omega, rfl, by simpa [fillL] using HB2.out, HF2.out⟩
  case round =>
    obtain ⟨k, hk, rfl, hbr, hfr⟩ := hrel
    have HBR := Aside0.mk hbr
    have HFR := Aside0.mk hfr
    clear hbr hfr HB2 HF2
    have hc1 : c ≠ -1 := by omega
    by_cases hkn : k < N
    · obtain ⟨q, hq, hqL⟩ : ∃ q : Nat, (fillL (fun i => plainEv 6 i ⟨#[]⟩ 2 ⟨#[116]⟩) L (k + 1)).length = q ∧ q ≤ L := ⟨_, rfl, by rw [fillL_length]; omega⟩
      have HQ := Aside0.mk hq
      clear hq
      obtain ⟨r, hr, hr1, hr2⟩ : ∃ r : Int, (if k < L then 0 else 13) = r ∧ (k < L → r = 0) ∧ (¬ k < L → r = 13) := ⟨_, rfl, fun h => if_pos h, fun h => if_neg h⟩
      have HP := Aside0.mk (put_fill w.heap.size w.heap.size L k c 6 2 ⟨#[]⟩ ⟨#[116]⟩ (fun i => (i : Int)) wr hc1 (by omega) HBR.out (by have := HFR.out.size; simp at this; omega) (by omega))
      rw [hr] at HP
      clear hr
      by_cases hkL : k < L
      · obtain rfl := hr1 hkL
        clear hr1 hr2
        go_wp2_with (first
          | (go_at_call 22; (with_reducible refine HP.out.mono ?_); rintro e w3 ht; obtain ⟨A3, c3, rfl, hC3, hb3, hf3⟩ := told_row ht; have HB3 := Aside0.mk hb3; have HF3 := Aside0.mk hf3; clear hb3 hf3 ht hC3)
          | (go_at_call 25; (with_reducible refine (buf_lenq HB3.out HQ.out).mono ?_); rintro e w4 ⟨rfl, rfl⟩))
        go_roundw
        case rel => exact ⟨k + 1, by omega, by go_num, HB3.out, HFR.out.trans HF3.out⟩
        case measure => simp [intOf]; omega
      · obtain rfl := hr2 hkL
        clear hr1 hr2
        go_wp2_with (first
          | (go_at_call 22; (with_reducible refine HP.out.mono ?_); rintro e w3 ht; obtain ⟨A3, c3, rfl, hC3, hb3, hf3⟩ := told_row ht; have HB3 := Aside0.mk hb3; have HF3 := Aside0.mk hf3; clear hb3 hf3 ht hC3)
          | (go_at_call 25; (with_reducible refine (buf_lenq HB3.out HQ.out).mono ?_); rintro e w4 ⟨rfl, rfl⟩))
        go_roundw
        case rel => exact ⟨k + 1, by omega, by go_num, HB3.out, HFR.out.trans HF3.out⟩
        case measure => simp [intOf]; omega
    · obtain rfl : k = N := by omega
      have PC := Aside0.mk (fun W (h : Buf w.heap.size W w.heap.size L c (fillL (fun i => plainEv 6 i ⟨#[]⟩ 2 ⟨#[116]⟩) L k)) (hB : w.heap.size ≤ W.heap.size) => put_plain w.heap.size w.heap.size L c _ 7 c ⟨#[]⟩ 0 ⟨#[]⟩ W _ (put_commit_plain _ c _ _ _ _ hc1) h hB (by rw [fillL_length]; omega))
      have HM := Aside0.mk (min_eq k L)
      go_upto_block 2 with (first
        | (go_at_call 22; (with_reducible refine (PC.out _ HBR.out (by have := HFR.out.size; simp at this; omega)).mono ?_); rintro e w8 ht; obtain ⟨A8, c8, q, hq, rfl, hC8, hb8, hf8⟩ := told_fill ht; have HC8 := Aside0.mk hC8; have HB8 := Aside0.mk hb8; have HF8 := Aside0.mk (HFR.out.trans hf8); have hm := HM.out q hq; clear hb8 hf8 ht hC8)
        | (go_at_call 25; (with_reducible refine (buf_lenq (q := 0) HB8.out rfl).mono ?_); rintro e w4 ⟨rfl, rfl⟩))
      clear PC HBR HFR
      go_wp2
      go_loopw [15] (fun i wr => wr = w8 ∧ ∃ i' : Nat, i' ≤ q ∧ i = .int .i64 i') (fun i _ => q - (intOf i).toNat)
      case atStart => exact ⟨rfl, 0, by omega, rfl⟩
      case round =>
        obtain ⟨rfl, i, hi, rfl⟩ := hrel
        by_cases hiq : i < q
        · obtain ⟨ad, ea, hcell, _⟩ := HC8.out i hiq
          cases ea
          replace hcell : wr.cell? ⟨(ad.add (i * 12)).block, (ad.add (i * 12)).off + 1, none⟩ = some (.int .i64 i) := hcell
          go_wp2
          go_roundw
          case rel => exact ⟨by first | rfl | trivial, i + 1, by omega, by go_num⟩
          case measure => simp [intOf]; omega
        · obtain rfl : i = q := by omega
          go_wp2_with (go_at_call 24; (with_reducible refine (tx_lives _).mono ?_); rintro e w9 ⟨rfl, hb9⟩)
          go_ret
          exact ⟨rfl, ((below_alloc (Below.refl _ _) _).trans (HF8.out.below (Nat.le_refl _))).trans (hb9.mono (by have := HF8.out.size; simp at this; omega))⟩
end Go.Proofs.Ytjkgafijifkfcaa
