/- CrcLong where 1 to 100 bytes come: one walk. Conditions: the slice reads as bytes. -/
import Derived.Test.YtjkgafijifkfcaaLongTells
namespace Go.Proofs.Ytjkgafijifkfcaa
open Go.RowKit Go.Proofs.YtjkgafijifkfcaaW.PrintWords
set_option linter.unusedVariables false
set_option linter.unusedSimpArgs false
set_option maxRecDepth 100000 in
set_option maxHeartbeats 4000000 in
theorem long_b (w : World) (A : Option Addr) (c n : Nat) (x : List Int) (more : Int) (HC : Aside0 (Kd.C (Kd.int .u8) w A n x)) (HB : Aside0 (Crc.Bytes x)) (hmc : n ≤ c) (hlen : n ≤ 9223372036854775807) (h100 : ¬ 100 < n) (h0 : 0 < n)
    (HL5 : Aside0 ((x ++ le4 (Crc.more 0 x) ++ [more % 256]).length = n + 5)) (HB4 : Aside0 (Crc.Bytes (x ++ le4 (Crc.more 0 x)))) (HB5 : Aside0 (Crc.Bytes (x ++ le4 (Crc.more 0 x) ++ [more % 256]))) :
    Calls Try.prog 14 #[.slice A n c, .int .i64 more] w fun e w' => e = .returned (.bool true) ∧ Below w.heap.size w w' := by
  go_enter Try.func14, Try.ntmps14
  go_wp2_with (first
    | (go_at_call 32; (with_reducible refine (put_nil A c n x _ HC.out (by omega) HB.out (by omega)).mono ?_); rintro e w1 ⟨v1, rfl, ho1, hb1⟩; obtain ⟨A1, c1, rfl, hc1, hC1⟩ := Kd.R_reads ho1; rw [put_len, (C_cells HC.out).1] at hc1 ⊢; rw [put_len, (C_cells HC.out).1] at ho1; have HO1 := Aside0.mk ho1; have HW1 := Aside0.mk hb1; clear ho1 hC1 hb1)
    | (refine app1k w.heap.size rfl (.tmp 26) (.tmp 29) rfl _ (x ++ le4 (Crc.more 0 x)) (more % 256) rfl rfl HO1.out HW1.out HW1.out.size (by rw [put_len, (C_cells HC.out).1]; omega) ?_; intro v2 w2 ho2 hk2 hb2; obtain ⟨A2, c2, rfl, hc2, hC2⟩ := Kd.R_reads ho2; rw [HL5.out] at hC2 hc2 ⊢; have HC2 := Aside0.mk hC2; have HK2 := Aside0.mk (kept_reads hk2); have HW2 := Aside0.mk hb2; clear ho2 hC2 hk2 hb2)
    | (go_at_call 33; (with_reducible refine (take_tells A2 c2 (n + 5) _ _ HC2.out hc2 HB5.out (by omega)).mono ?_); rintro e w3 ⟨A3, m3, c3, r3, rfl, hq3, hr3, hb3⟩; have HB3 := Aside0.mk hb3; clear hb3 hr3; have HQ3 := Aside0.mk hq3; clear hq3)
    | (go_at_call 33; (with_reducible refine (take_tells A1 c1 (n + 3) _ _ (C_takeN (Kd.C_below HK2.out HB3.out) (n + 3) (by omega)) (by omega) (Bytes_take HB4.out _) (by omega)).mono ?_); rintro e w4 ⟨A4, m4, c4, r4, rfl, hq4, hr4, hb4⟩; have HB4' := Aside0.mk hb4; have HR4 := Aside0.mk hr4; clear hb4 hr4; rcases HQ3.out with ⟨rfl, hm3⟩ | hz3 <;> rcases hq4 with ⟨rfl, hm4⟩ | hz4)
    | (go_at_call 20; (with_reducible refine (lives_calls _).mono ?_); rintro e w5 ⟨rfl, hb5⟩))
  all_goals
    go_ret
    exact ⟨rfl, below_step (below_step (below_step HW2.out HB3.out) HB4'.out) (by assumption)⟩
end Go.Proofs.Ytjkgafijifkfcaa
