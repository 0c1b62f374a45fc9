/- The law CrcTakes comes to true for every slice of bytes. Conditions: the slice reads as bytes. -/
import Derived.Test.YtjkgafijifkfcaaCrcRefTake
namespace Go.Proofs.Ytjkgafijifkfcaa
open Go.RowKit Go.Proofs.YtjkgafijifkfcaaW.PrintWords
set_option linter.unusedVariables false
set_option linter.unusedSimpArgs false

theorem take_good (A : Option Addr) (c : Nat) (l : List Int) (w : World) (hr : Kd.C (Kd.int .u8) w A l.length l) (hc : l.length ≤ c) (hb : Crc.Bytes l) (h : 4 ≤ l.length) (hl : l.length ≤ 100000) (hg : goodB l = true) :
    Calls Try.prog 33 #[.slice A l.length c] w fun e w' => ∃ v, e = .returned (.tuple #[v, .int .i64 0]) ∧ Kd.R (Kd.int .u8) 5 w' w.heap.size (fun _ => True) v (own l) ∧ Below w.heap.size w w' := by
  refine (take_long A c l w hr hc hb h hl).mono fun e w' ⟨v, he, hR, hB⟩ => ?_
  rw [hg] at he hR
  exact ⟨v, he, hR, hB⟩
theorem take_bad (A : Option Addr) (c : Nat) (l : List Int) (w : World) (hr : Kd.C (Kd.int .u8) w A l.length l) (hc : l.length ≤ c) (hb : Crc.Bytes l) (h : 4 ≤ l.length) (hl : l.length ≤ 100000) (hg : goodB l = false) :
    Calls Try.prog 33 #[.slice A l.length c] w fun e w' => ∃ v, e = .returned (.tuple #[v, .int .i64 3]) ∧ Kd.R (Kd.int .u8) 5 w' w.heap.size (fun _ => True) v [] ∧ Below w.heap.size w w' := by
  refine (take_long A c l w hr hc hb h hl).mono fun e w' ⟨v, he, hR, hB⟩ => ?_
  rw [hg] at he hR
  exact ⟨v, he, hR, hB⟩
theorem rtake_good (A : Option Addr) (c : Nat) (l : List Int) (w : World) (hr : Kd.C (Kd.int .u8) w A l.length l) (hc : l.length ≤ c) (hb : Crc.Bytes l) (h : 4 ≤ l.length) (hl : l.length ≤ 100000) (hg : goodB l = true) :
    Calls Try.prog 35 #[.slice A l.length c] w fun e w' => e = .returned (.tuple #[.slice A (l.length - 4) c, .int .i64 0]) ∧ Below w.heap.size w w' := by
  refine (rtake_long A c l w hr hc hb h hl).mono fun e w' ⟨he, hB⟩ => ?_
  rw [hg] at he
  exact ⟨he, hB⟩
theorem rtake_bad (A : Option Addr) (c : Nat) (l : List Int) (w : World) (hr : Kd.C (Kd.int .u8) w A l.length l) (hc : l.length ≤ c) (hb : Crc.Bytes l) (h : 4 ≤ l.length) (hl : l.length ≤ 100000) (hg : goodB l = false) :
    Calls Try.prog 35 #[.slice A l.length c] w fun e w' => e = .returned (.tuple #[.slice none 0 0, .int .i64 3]) ∧ Below w.heap.size w w' := by
  refine (rtake_long A c l w hr hc hb h hl).mono fun e w' ⟨he, hB⟩ => ?_
  rw [hg] at he
  exact ⟨he, hB⟩
theorem conv_nil (W : World) : (convert 22 9 (.slice none 0 0)).run Try.prog W = .ok (.string (strOfNums [])) W := conv_bytes (Kd.C_nil (Kd.int .u8) W)

set_option maxHeartbeats 4000000 in
theorem takes_any (w : World) (A : Option Addr) (c : Nat) (l : List Int) (hr : Kd.C (Kd.int .u8) w A l.length l) (hc : l.length ≤ c) (hb : Crc.Bytes l) :
    Calls Try.prog 12 #[.slice A l.length c] w fun e w' => e = .returned (.bool true) ∧ Below w.heap.size w w' := by
  have hlen : l.length ≤ 9223372036854775807 := hr.2.1
  generalize hL : l.take 200 = L
  have hLn : L.length ≤ 200 := by rw [← hL]; simp; omega
  have hLc : L.length ≤ c := by rw [← hL]; simp; omega
  have HL : Aside0 (Kd.C (Kd.int .u8) w A L.length L) := ⟨by rw [← hL]; exact C_take hr 200⟩
  have HB : Aside0 (Crc.Bytes L) := ⟨by rw [← hL]; exact Bytes_take hb 200⟩
  have HF := Aside0.mk (few_calls A c l w hc hlen)
  rw [hL] at HF
  clear hr hb hL
  by_cases h4 : 4 ≤ L.length
  · have HOW := Aside0.mk (C_takeN HL.out (L.length - 4) (by omega))
    cases hg : goodB L with
    | true =>
      have HG := Aside0.mk hg
      clear hg
      go_enter Try.func12, Try.ntmps12
      go_wp2_with (first
        | (go_at_call 15; (with_reducible refine HF.out.mono ?_); rintro e w1 ⟨rfl, rfl⟩)
        | (go_at_call 33; (with_reducible refine (take_good A c L _ HL.out hLc HB.out h4 (by omega) HG.out).mono ?_); rintro e w1 ⟨v1, rfl, ho1, hb1⟩; obtain ⟨A1, c1, rfl, hc1, hC1⟩ := Kd.R_reads ho1; have HC1 := Aside0.mk hC1; clear ho1 hC1)
        | (go_at_call 35; (with_reducible refine (rtake_good A c L _ (Kd.C_below HL.out hb1) hLc HB.out h4 (by omega) HG.out).mono ?_); rintro e w2 ⟨rfl, hb2⟩; have hv1 := conv_bytes (c := c1) (Kd.C_below HC1.out hb2); have hv2 := conv_bytes (c := c) (Kd.C_below HOW.out (below_step hb1 hb2)))
        | (go_at_call 20; (with_reducible refine (lives_calls _).mono ?_); rintro e w3 ⟨rfl, hb3⟩))
      go_ret
      exact ⟨rfl, below_step (below_step hb1 hb2) hb3⟩
    | false =>
      have HG := Aside0.mk hg
      clear hg
      go_enter Try.func12, Try.ntmps12
      go_wp2_with (first
        | (go_at_call 15; (with_reducible refine HF.out.mono ?_); rintro e w1 ⟨rfl, rfl⟩)
        | (go_at_call 33; (with_reducible refine (take_bad A c L _ HL.out hLc HB.out h4 (by omega) HG.out).mono ?_); rintro e w1 ⟨v1, rfl, ho1, hb1⟩; obtain ⟨A1, c1, rfl, hc1, hC1⟩ := Kd.R_reads ho1; have HC1 := Aside0.mk hC1; clear ho1 hC1; rw [List.length_nil])
        | (go_at_call 35; (with_reducible refine (rtake_bad A c L _ (Kd.C_below HL.out hb1) hLc HB.out h4 (by omega) HG.out).mono ?_); rintro e w2 ⟨rfl, hb2⟩; have hv1 := conv_bytes (c := c1) (Kd.C_below HC1.out hb2); rw [List.length_nil] at hv1; have hv2 := conv_nil w2)
        | (go_at_call 20; (with_reducible refine (lives_calls _).mono ?_); rintro e w3 ⟨rfl, hb3⟩))
      go_ret
      exact ⟨rfl, below_step (below_step hb1 hb2) hb3⟩
  · have hv2 := conv_nil w
    go_enter Try.func12, Try.ntmps12
    go_wp2_with (first
      | (go_at_call 15; (with_reducible refine HF.out.mono ?_); rintro e w1 ⟨rfl, rfl⟩)
      | (go_at_call 33; (with_reducible refine (take_short A c L _ (by omega)).mono ?_); rintro e w1 ⟨rfl, rfl⟩)
      | (go_at_call 35; (with_reducible refine (rtake_short A c L _ (by omega)).mono ?_); rintro e w2 ⟨rfl, rfl⟩)
      | (go_at_call 20; (with_reducible refine (lives_calls _).mono ?_); rintro e w3 ⟨rfl, hb3⟩))
    go_ret
    exact ⟨rfl, by assumption⟩
end Go.Proofs.Ytjkgafijifkfcaa
