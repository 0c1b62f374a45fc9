/- The law TxbufAborts comes to true for every three numbers. Conditions: none. -/
import Derived.Test.YtjkgafijifkfcaaTxFill
import Derived.Deep.CutRange
import Derived.Deep.CutBlock
import Derived.Deep.DeepCutAuto
namespace Go.Proofs.Ytjkgafijifkfcaa
open Go.RowKit Go.Proofs.YtjkgafijifkfcaaW.PrintWords
set_option linter.unusedVariables false
set_option linter.unusedSimpArgs false
set_option maxRecDepth 100000 in
set_option maxHeartbeats 4000000 in
theorem aborts_any (w : World) (a b c : Int) (ha : -9223372036854775808 ≤ a) (ha' : a ≤ 9223372036854775807) (hb : -9223372036854775808 ≤ b) (hb' : b ≤ 9223372036854775807) (hc : -9223372036854775808 ≤ c) (hc' : c ≤ 9223372036854775807) :
    Calls Try.prog 8 #[.int .i64 a, .int .i64 b, .int .i64 c] w fun e w' => e = .returned (.bool true) ∧ Below w.heap.size w w' := by
  go_enter Try.func8, Try.ntmps8
  go_upto_if 15 with fail
  go_cut [0] (fun s0 w' => w = w' ∧ s0 = .int .i64 (signed a))
  case first =>
    by_cases h : a < 0
    · go_wp2
      go_meet
      case rel => exact ⟨rfl, by unfold signed; rw [if_pos (by omega)]⟩
    · go_wp2
      go_meet
      case rel => exact ⟨rfl, by unfold signed; rw [if_neg (by omega)]⟩
  obtain ⟨rfl, rfl⟩ := hcut
  go_upto_if 20 with fail
  go_cut [1] (fun s1 w' => w = w' ∧ s1 = .int .i64 (signed b))
  case first =>
    by_cases h : b < 0
    · go_wp2
      go_meet
      case rel => exact ⟨rfl, by unfold signed; rw [if_pos (by omega)]⟩
    · go_wp2
      go_meet
      case rel => exact ⟨rfl, by unfold signed; rw [if_neg (by omega)]⟩
  obtain ⟨rfl, rfl⟩ := hcut
  go_upto_if 25 with fail
  go_cut [2] (fun s2 w' => w = w' ∧ s2 = .int .i64 (signed c))
  case first =>
    by_cases h : c < 0
    · go_wp2
      go_meet
      case rel => exact ⟨rfl, by unfold signed; rw [if_pos (by omega)]⟩
    · go_wp2
      go_meet
      case rel => exact ⟨rfl, by unfold signed; rw [if_neg (by omega)]⟩
  obtain ⟨rfl, rfl⟩ := hcut
  obtain ⟨ga, ga'⟩ := signed_range a ha ha'
  obtain ⟨gb, gb'⟩ := signed_range b hb hb'
  obtain ⟨gc, gc'⟩ := signed_range c hc hc'
  generalize signed a = a at *
  generalize signed b = b at *
  generalize signed c = c at *
  obtain ⟨L, hL, hL1, hL2⟩ : ∃ L : Nat, 1 + a % 20 = L ∧ 1 ≤ L ∧ L ≤ 20 := ⟨(1 + a % 20).toNat, by omega, by omega, by omega⟩
  obtain ⟨N, hN, hN1⟩ : ∃ N : Nat, b % 11 = N ∧ N ≤ 10 := ⟨(b % 11).toNat, by omega, by omega⟩
  obtain ⟨M, hM, hM1⟩ : ∃ M : Nat, c % 11 = M ∧ M ≤ 10 := ⟨(c % 11).toNat, by omega, by omega⟩
  have P1 := Aside0.mk (fun W (h : Buf w.heap.size W w.heap.size L (-1) []) (hB : w.heap.size ≤ W.heap.size) => put_plain w.heap.size w.heap.size L (-1) [] 2 1 ⟨#[]⟩ 0 ⟨#[]⟩ W ⟨1, [], [], false, 0⟩ rfl h hB (by simp))
  go_upto_block 0 with (first
    | (go_at_call 21; (with_reducible refine (txnew_pos _ _ (by omega)).mono ?_); rintro e w1 ⟨rfl, rfl⟩; have HB1 := Aside0.mk (buf_new w (L : Int)))
    | (go_at_call 22; (with_reducible refine (P1.out _ HB1.out (by simp)).mono ?_); rintro e w2 ht; obtain ⟨A2, c2, rfl, hC2, hb2, hf2⟩ := told_row ht; have HB2 := Aside0.mk hb2; have HF2 := Aside0.mk hf2; clear hb2 hf2 ht hC2))
  go_wp2
  go_loopw [8] (fun i wr => ∃ k : Nat, k ≤ N ∧ i = .int .i64 k ∧ Buf w.heap.size wr w.heap.size L 1 (fillL (fun i => plainEv 3 0 ⟨#[116]⟩ 0 ⟨#[]⟩) L k) ∧ FrameB w.heap.size w.heap.size (w.alloc (.cells #[.int .i64 L, .int .i64 (-1), .slice none 0 0] 73)) wr) (fun i _ => N - (intOf i).toNat)
  case atStart => exact ⟨0, by omega, rfl, by simpa [fillL] using HB2.out, HF2.out⟩
  case round =>
    obtain ⟨k, hk, rfl, hbr, hfr⟩ := hrel
    have HBR := Aside0.mk hbr
    have HFR := Aside0.mk hfr
    clear hbr hfr
    by_cases hkn : k < N
    · go_wp2_with (go_at_call 22; (with_reducible refine (put_fill w.heap.size w.heap.size L k 1 3 0 ⟨#[116]⟩ ⟨#[]⟩ (fun _ => 0) _ (by omega) (by omega) HBR.out (by have := HFR.out.size; simp at this; omega) (by omega)).mono ?_); rintro e w3 ht; obtain ⟨A3, c3, rfl, hC3, hb3, hf3⟩ := told_row ht; have HB3 := Aside0.mk hb3; have HF3 := Aside0.mk hf3; clear hb3 hf3 ht hC3)
      go_roundw
      case rel => exact ⟨k + 1, by omega, by go_num, HB3.out, HFR.out.trans HF3.out⟩
      case measure => simp [intOf]; omega
    · obtain rfl : k = N := by omega
      clear P1 HB1 HB2 HF2
      have PA := Aside0.mk (fun W (h : Buf w.heap.size W w.heap.size L 1 (fillL (fun i => plainEv 3 0 ⟨#[116]⟩ 0 ⟨#[]⟩) L k)) (hB : w.heap.size ≤ W.heap.size) => put_plain w.heap.size w.heap.size L 1 _ 8 1 ⟨#[]⟩ 0 ⟨#[]⟩ W _ (put_abort_plain _ 1 _ _ _ _ (by omega)) h hB (by rw [fillL_length]; omega))
      have PB := Aside0.mk (fun W (h : Buf w.heap.size W w.heap.size L (-1) []) (hB : w.heap.size ≤ W.heap.size) => put_plain w.heap.size w.heap.size L (-1) [] 2 2 ⟨#[]⟩ 0 ⟨#[]⟩ W ⟨2, [], [], false, 0⟩ rfl h hB (by simp))
      go_upto_block 2 with (first
        | (go_at_call 22; (with_reducible refine (PA.out _ HBR.out (by have := HFR.out.size; simp at this; omega)).mono ?_); rintro e w4 ht; obtain ⟨A4, c4, rfl, hC4, hb4, hf4⟩ := told_row ht; have HB4 := Aside0.mk hb4; have HF4 := Aside0.mk (HFR.out.trans hf4); clear hb4 hf4 ht hC4)
        | (go_at_call 25; (with_reducible refine (buf_len HB4.out).mono ?_); rintro e w5 ⟨rfl, rfl⟩)
        | (go_at_call 22; (with_reducible refine (PB.out _ HB4.out (by have := HF4.out.size; simp at this; omega)).mono ?_); rintro e w6 ht; obtain ⟨A6, c6, rfl, hC6, hb6, hf6⟩ := told_row ht; have HB6 := Aside0.mk hb6; have HF6 := Aside0.mk (HF4.out.trans hf6); clear hb6 hf6 ht hC6))
      clear PA PB HB4 HF4 HBR HFR
      go_wp2
      go_loopw [12] (fun i wr => ∃ j : Nat, j ≤ M ∧ i = .int .i64 j ∧ Buf w.heap.size wr w.heap.size L 2 (fillL (fun i => plainEv 3 0 ⟨#[117]⟩ 0 ⟨#[]⟩) L j) ∧ FrameB w.heap.size w.heap.size (w.alloc (.cells #[.int .i64 L, .int .i64 (-1), .slice none 0 0] 73)) wr) (fun i _ => M - (intOf i).toNat)
      case atStart => exact ⟨0, by omega, rfl, by simpa [fillL] using HB6.out, HF6.out⟩
      case round =>
        obtain ⟨j, hj, rfl, hbr, hfr⟩ := hrel
        have HBS := Aside0.mk hbr
        have HFS := Aside0.mk hfr
        clear hbr hfr
        by_cases hjn : j < M
        · go_wp2_with (go_at_call 22; (with_reducible refine (put_fill w.heap.size w.heap.size L j 2 3 0 ⟨#[117]⟩ ⟨#[]⟩ (fun _ => 0) _ (by omega) (by omega) HBS.out (by have := HFS.out.size; simp at this; omega) (by omega)).mono ?_); rintro e w7 ht; obtain ⟨A7, c7, rfl, hC7, hb7, hf7⟩ := told_row ht; have HB7 := Aside0.mk hb7; have HF7 := Aside0.mk hf7; clear hb7 hf7 ht hC7)
          go_roundw
          case rel => exact ⟨j + 1, by omega, by go_num, HB7.out, HFS.out.trans HF7.out⟩
          case measure => simp [intOf]; omega
        · obtain rfl : j = M := by omega
          clear HB6 HF6
          have PC := Aside0.mk (fun W (h : Buf w.heap.size W w.heap.size L 2 (fillL (fun i => plainEv 3 0 ⟨#[117]⟩ 0 ⟨#[]⟩) L j)) (hB : w.heap.size ≤ W.heap.size) => put_plain w.heap.size w.heap.size L 2 _ 7 2 ⟨#[]⟩ 0 ⟨#[]⟩ W _ (put_commit_plain _ 2 _ _ _ _ (by omega)) h hB (by rw [fillL_length]; omega))
          go_upto_block 4 with (first
            | (go_at_call 22; (with_reducible refine (PC.out _ HBS.out (by have := HFS.out.size; simp at this; omega)).mono ?_); rintro e w8 ht; obtain ⟨A8, c8, q, hq, rfl, hC8, hb8, hf8⟩ := told_fill ht; have HC8 := Aside0.mk hC8; have HF8 := Aside0.mk (HFS.out.trans hf8); clear hb8 hf8 ht hC8))
          clear PC HBS HFS
          have hm := min_eq j L q hq
          go_wp2
          go_loopw [13] (fun i wr => wr = w8 ∧ ∃ i' : Nat, i' ≤ q ∧ i = .int .i64 i') (fun i _ => q - (intOf i).toNat)
          case atStart => exact ⟨rfl, 0, by omega, rfl⟩
          case round =>
            obtain ⟨rfl, i, hi, rfl⟩ := hrel
            by_cases hiq : i < q
            · obtain ⟨ad, ea, _, hcell⟩ := HC8.out i hiq
              cases ea
              replace hcell : wr.cell? ⟨(ad.add (i * 12)).block, (ad.add (i * 12)).off + 2, none⟩ = some (.string ⟨#[117]⟩) := hcell
              go_wp2
              go_roundw
              case rel => exact ⟨by first | rfl | trivial, i + 1, by omega, by go_num⟩
              case measure => simp [intOf]; omega
            · obtain rfl : i = q := by omega
              go_wp2_with (go_at_call 24; (with_reducible refine (tx_lives _).mono ?_); rintro e w9 ⟨rfl, hb9⟩)
              go_ret
              exact ⟨rfl, ((below_alloc (Below.refl _ _) _).trans (HF8.out.below (Nat.le_refl _))).trans (hb9.mono (by have := HF8.out.size; simp at this; omega))⟩
theorem aborts_law (w : World) (a : Int) (ha : -9223372036854775808 ≤ a) (ha' : a ≤ 9223372036854775807) (b : Int) (hb : -9223372036854775808 ≤ b) (hb' : b ≤ 9223372036854775807) (c : Int) (hc : -9223372036854775808 ≤ c) (hc' : c ≤ 9223372036854775807) :
    Calls Try.prog 8 #[.int .i64 a, .int .i64 b, .int .i64 c] w fun e w' => e = .returned (.bool true) ∧ Below w.heap.size w w' := aborts_any w a b c ha ha' hb hb' hc hc'
end Go.Proofs.Ytjkgafijifkfcaa
