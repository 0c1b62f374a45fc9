/- The document's Key of values: the same bytes. Conditions: the values read so; few values. -/
import Derived.Test.YtmdofdaiepilbaaGreatDoorGKeys
namespace Go.Proofs.YtmdofdaiepilbaaGreatDoor
open Go.RowKit Go.Proofs.YtmdofdaiepilbaaGreatDoorW.PrintWords Go.Proofs.YtmdofdaiepilbaaGreatDoorW.PrintMore
set_option linter.unusedVariables false
set_option linter.unusedSimpArgs false
/-- a number that is moved up, byte by byte -/
def shN (T : Int) : Nat → Int
  | 0 => T
  | 1 => T % 72057594037927936 * 256
  | 2 => T % 281474976710656 * 65536
  | 3 => T % 1099511627776 * 16777216
  | 4 => T % 4294967296 * 4294967296
  | 5 => T % 16777216 * 1099511627776
  | 6 => T % 65536 * 281474976710656
  | 7 => T % 256 * 72057594037927936
  | _ => 0
theorem topN_bd (n : Int) : 0 ≤ topN n ∧ topN n < 18446744073709551616 := by unfold topN; omega
theorem shN_step (T : Int) (j : Nat) (hj : j < 8) (h0 : 0 ≤ T) (h1 : T < 18446744073709551616) : shN T j * 256 % 18446744073709551616 = shN T (j + 1) := by
  rcases (show j = 0 ∨ j = 1 ∨ j = 2 ∨ j = 3 ∨ j = 4 ∨ j = 5 ∨ j = 6 ∨ j = 7 by omega) with rfl | rfl | rfl | rfl | rfl | rfl | rfl | rfl <;> simp only [shN] <;> omega
theorem shN_bd (T : Int) (j : Nat) (h0 : 0 ≤ T) (h1 : T < 18446744073709551616) : 0 ≤ shN T j ∧ shN T j < 18446744073709551616 := by
  rcases (show j = 0 ∨ j = 1 ∨ j = 2 ∨ j = 3 ∨ j = 4 ∨ j = 5 ∨ j = 6 ∨ j = 7 ∨ 8 ≤ j by omega) with rfl | rfl | rfl | rfl | rfl | rfl | rfl | rfl | h
  all_goals try (simp only [shN]; omega)
  obtain ⟨k, rfl⟩ : ∃ k, j = k + 8 := ⟨j - 8, by omega⟩
  exact ⟨Int.le_refl 0, by show (0 : Int) < _; omega⟩
theorem shN_byte (n : Int) (j : Nat) (hj : j < 8) : shN (topN n) j / 72057594037927936 = beB n j := by
  obtain ⟨h0, h1⟩ := topN_bd n
  unfold beB
  generalize topN n = T at *
  rcases (show j = 0 ∨ j = 1 ∨ j = 2 ∨ j = 3 ∨ j = 4 ∨ j = 5 ∨ j = 6 ∨ j = 7 by omega) with rfl | rfl | rfl | rfl | rfl | rfl | rfl | rfl
  · show T / 72057594037927936 = T / 72057594037927936 % 256; omega
  · show T % 72057594037927936 * 256 / 72057594037927936 = T / 281474976710656 % 256; omega
  · show T % 281474976710656 * 65536 / 72057594037927936 = T / 1099511627776 % 256; omega
  · show T % 1099511627776 * 16777216 / 72057594037927936 = T / 4294967296 % 256; omega
  · show T % 4294967296 * 4294967296 / 72057594037927936 = T / 16777216 % 256; omega
  · show T % 16777216 * 1099511627776 / 72057594037927936 = T / 65536 % 256; omega
  · show T % 65536 * 281474976710656 / 72057594037927936 = T / 256 % 256; omega
  · show T % 256 * 72057594037927936 / 72057594037927936 = T / 1 % 256; omega
set_option maxRecDepth 100000 in
set_option maxHeartbeats 16000000 in
theorem key03_calls (R : Option Addr) (cr : Nat) (l : List Val) (w : World) (hR : kVal.C w R l.length l) (hv : ∀ v ∈ l, valB v = true) (hn : numOk l) (hlen : l.length ≤ 1000000) :
    Calls Tryz.prog 25 #[.slice R l.length cr] w fun e w' => e = .returned (.string (keyS l)) ∧ Below w.heap.size w w' := by
  have HR := Aside0.mk hR
  have HV := Aside0.mk hv
  have HN := Aside0.mk hn
  have HL := Aside0.mk (fun m => keyL_len (l := l.take m) (fun v hv' => hv v (List.mem_of_mem_take hv')))
  clear hR hv hn
  go_enter Tryz.func25, Tryz.ntmps25
  go_wp2
  go_loopw [3, 4] (fun v i wr => ∃ m : Nat, m ≤ l.length ∧ i = .int .i64 m ∧ kByt.R 5 wr w.heap.size (fun _ => True) v (keyL (l.take m)) ∧ Below w.heap.size w wr) (fun _ i _ => l.length - (intOf i).toNat)
  case atStart => exact ⟨0, by omega, rfl, by rw [List.take_zero]; exact Kd.R_nil _ _ _ _ _, Below.refl _ _⟩
  case round =>
    obtain ⟨m, hm, rfl, hrow, hbel⟩ := hrel
    have hll := HL.out m
    rw [List.length_take] at hll
    by_cases hlt : m < l.length
    case neg =>
      obtain rfl : m = l.length := by omega
      rw [List.take_of_length_le (Nat.le_refl _)] at hrow
      obtain ⟨A9, c9, rfl⟩ := Kd.R_slice hrow
      have hcv := conv_str wr A9 (keyL l).length c9 (keyL l) rfl (Kd.F_now (Kd.R_F hrow))
      clear hrow
      go_wp2
      go_ret
      exact ⟨rfl, hbel⟩
    obtain ⟨bd, eB, f0, f1, f2⟩ := at_Val HR.out m hlt
    subst eB
    replace f0 := pw_cell_below hbel f0
    replace f1 := pw_cell_below hbel f1
    replace f2 := pw_cell_below hbel f2
    have hgood := good_to HV.out hlt
    have htx := valB_text hgood
    have HSn := Aside0.mk (keyL_snoc l m hlt)
    have hnum := num_at HN.out hlt
    have hle : w.heap.size ≤ wr.heap.size := hbel.size
    generalize hxx : rdVal l m = x at *
    clear hxx hgood
    obtain ⟨k, n, s⟩ := x
    have HA := Aside0.mk (KAt.start hrow hbel hle #[.int .i64 k, .int .i64 n, .string s])
    have hn0 := hnum.1
    have hn1 := hnum.2
    simp only at htx hn0 hn1
    clear hrow hbel hnum hle
    generalize hxs : keyL (l.take m) = xs at *
    clear hxs
    go_upto_region 6 with fail
    generalize wr.alloc (.cells #[.int .i64 k, .int .i64 n, .string s] 75) = W1 at *
    generalize wr.heap.size = g at *
    clear f0 f1 f2
    have c0' := cell_of_row W1 _ 0 _ _ _ HA.out.box
    go_upto_block 2 with (refine appK rfl (.tmp 19) (.tmp 23) rfl _ rfl rfl HA.out (by omega) ?_; intro v1 w1 h1; have c0 := cell_of_row w1 _ 0 _ _ _ h1.box; have c1 := cell_of_row w1 _ 1 _ _ _ h1.box; have c2 := cell_of_row w1 _ 2 _ _ _ h1.box; have H1 := Aside0.mk h1; clear h1)
    by_cases k1 : k = 1
    · subst k1
      go_wp2_with (refine appK rfl (.tmp 29) (.tmp 33) rfl _ rfl rfl H1.out (by simp; omega) ?_; intro v2 w2 h2; have H2 := Aside0.mk h2; clear h2)
      have HC := Aside0.mk (show KAt w w.heap.size g _ _ _ (xs ++ keyV ⟨1, n, s⟩) by have := H2.out; rw [List.append_assoc] at this; exact this)
      go_roundw
      case rel => exact ⟨m + 1, by omega, by go_num, by rw [HSn.out]; exact HC.out.done, HC.out.bel⟩
      case measure => simp [intOf]; omega
    have e1 : (k == 1) = false := beq_eq_false_iff_ne.2 k1
    by_cases k2 : k = 2
    · subst k2
      have HT := Aside0.mk (show keyV ⟨2, n, s⟩ = 2 :: (List.range 8).map (beB n) by unfold keyV tailV; simp)
      have hw : IntKind.u64.wrap (IntKind.u64.wrap n + 9223372036854775808) = topN n := by rw [IntKind.wrap_u64, IntKind.wrap_u64]; unfold topN; omega
      have HW := Aside0.mk hw
      clear hw
      go_wp2_with fail
      simp only [show ((2 : Int) % 256) = 2 from rfl]
      go_loopw [3, 6, 7] (fun v x i wq => ∃ j : Nat, j ≤ 8 ∧ i = .int .i64 j ∧ x = .int .u64 (shN (topN n) j) ∧ KAt w w.heap.size g #[.int .i64 2, .int .i64 n, .string s] wq v (xs ++ 2 :: (List.range j).map (beB n))) (fun _ _ i _ => 8 - (intOf i).toNat)
      case atStart => exact ⟨0, by omega, rfl, by rw [HW.out]; rfl, H1.out⟩
      case round =>
        obtain ⟨j, hj, rfl, rfl, hat⟩ := hrel
        have HAt := Aside0.mk hat
        clear hat
        have HSt := Aside0.mk (fun (h : j < 8) => shN_step (topN n) j h (topN_bd n).1 (topN_bd n).2)
        have HBy := Aside0.mk (fun (h : j < 8) => shN_byte n j h)
        have hbd := shN_bd (topN n) j (topN_bd n).1 (topN_bd n).2
        generalize hsh : shN (topN n) j = x at *
        clear hsh
        by_cases hj8 : j < 8
        · have hj8' : (j : Int) < 8 := by omega
          go_wp2_with (refine appK rfl (.tmp 45) (.tmp 49) rfl _ rfl rfl HAt.out (by simp; omega) ?_; intro v2 w2 h2; have H2 := Aside0.mk h2; clear h2)
          go_roundw
          case rel => exact ⟨j + 1, by omega, by go_num, by rw [← HSt.out hj8, IntKind.wrap_u64], by have := H2.out; rw [range_snoc, ← HBy.out hj8]; simpa using this⟩
          case measure => simp [intOf]; omega
        · obtain rfl : j = 8 := by omega
          have HC := Aside0.mk (show KAt w w.heap.size g _ _ _ (xs ++ keyV ⟨2, n, s⟩) by rw [HT.out]; exact HAt.out)
          go_wp2
          go_roundw
          case rel => exact ⟨m + 1, by omega, by go_num, by rw [HSn.out]; exact HC.out.done, HC.out.bel⟩
          case measure => simp [intOf]; omega
    have e2 : (k == 2) = false := beq_eq_false_iff_ne.2 k2
    by_cases k34 : k = 3 ∨ k = 4
    case neg =>
      have e3 : (k == 3) = false := beq_eq_false_iff_ne.2 (fun h => k34 (.inl h))
      have e4 : (k == 4) = false := beq_eq_false_iff_ne.2 (fun h => k34 (.inr h))
      have HT := Aside0.mk (show keyV ⟨k, n, s⟩ = [k % 256] by unfold keyV tailV; simp [k1, k2, k34])
      have HC := Aside0.mk (show KAt w w.heap.size g _ _ _ (xs ++ keyV ⟨k, n, s⟩) by rw [HT.out]; exact H1.out)
      clear k34 k1 k2
      go_wp2
      go_roundw
      case rel => exact ⟨m + 1, by omega, by go_num, by rw [HSn.out]; exact HC.out.done, HC.out.bel⟩
      case measure => simp [intOf]; omega
    have HT := Aside0.mk (show keyV ⟨k, n, s⟩ = k % 256 :: (escL s.data.toList ++ [0, 1]) by unfold keyV tailV; simp [k1, k2, k34])
    have hq : (k == 3) = true ∨ ((k == 3) = false ∧ (k == 4) = true) := by
      rcases k34 with rfl | rfl
      · exact .inl rfl
      · exact .inr ⟨rfl, rfl⟩
    clear k34 k1 k2
    have hsl : s.data.toList.length = s.size := by simp
    rcases hq with e3 | ⟨e3, e4⟩
    all_goals
      go_wp2_with fail
      go_loopw [3, 8] (fun v i wq => ∃ j : Nat, j ≤ s.size ∧ i = .int .i64 j ∧ KAt w w.heap.size g #[.int .i64 k, .int .i64 n, .string s] wq v (xs ++ [k % 256] ++ escL (s.data.toList.take j))) (fun _ i _ => s.size - (intOf i).toNat)
      case atStart => exact ⟨0, by omega, rfl, by simpa [escL] using H1.out⟩
      case round =>
        obtain ⟨j, hj, rfl, hat⟩ := hrel
        have t2 := cell_of_row wr _ 2 _ _ _ hat.box
        have HAt := Aside0.mk hat
        clear hat
        have hel := escL_len (s.data.toList.take j)
        rw [List.length_take] at hel
        by_cases hlt2 : j < s.size
        · have hx := index_atN s j hlt2
          have hsn := escL_snoc s.data.toList j (by simpa using hlt2)
          rw [byte_at s j hlt2] at hsn
          have HSn2 := Aside0.mk hsn
          clear hsn
          generalize (s[j]'hlt2).toNat = c at *
          by_cases hz : c = 0
          · subst hz
            go_wp2_with (first
              | (refine appK rfl (.tmp 63) (.tmp 68) rfl _ rfl rfl HAt.out (by simp; omega) ?_; intro v2 w2 h2; have t3 := cell_of_row w2 _ 2 _ _ _ h2.box; have H2 := Aside0.mk h2; clear h2)
              | (refine appK rfl (.tmp 75) (.tmp 76) rfl _ rfl rfl H2.out (by simp; omega) ?_; intro v3 w3 h3; have H3 := Aside0.mk h3; clear h3))
            go_roundw
            case rel => exact ⟨j + 1, by omega, by go_num, by have := H3.out; rw [HSn2.out]; simpa using this⟩
            case measure => simp [intOf]; omega
          · have hq : ((c : Int) == 0) = false := beq_eq_false_iff_ne.2 (by omega)
            have HZ := Aside0.mk hz
            clear hz
            go_wp2_with (refine appK rfl (.tmp 63) (.tmp 68) rfl _ rfl rfl HAt.out (by simp; omega) ?_; intro v2 w2 h2; have t3 := cell_of_row w2 _ 2 _ _ _ h2.box; have H2 := Aside0.mk h2; clear h2)
            go_roundw
            case rel => exact ⟨j + 1, by omega, by go_num, by have := H2.out; rw [HSn2.out, if_neg HZ.out]; simpa using this⟩
            case measure => simp [intOf]; omega
        · obtain rfl : j = s.size := by omega
          have HAl := Aside0.mk (HAt.out.alloc (.cells #[.int .u8 0, .int .u8 1] 5))
          have hC2 : kByt.C (wr.alloc (.cells #[.int .u8 0, .int .u8 1] 5)) (some ⟨wr.heap.size, 0, none⟩) 2 [0, 1] := C_rowK (l := [0, 1]) (heap_alloc_new _ _) (by decide)
          have HC2 := Aside0.mk hC2
          clear hC2
          go_wp2_with (refine appKN rfl (.tmp 78) (.tmp 79) rfl [0, 1] _ _ _ rfl rfl HC2.out HAl.out (by simp; omega) ?_; intro v4 w4 h4; have H4 := Aside0.mk h4; clear h4)
          have HC := Aside0.mk (show KAt w w.heap.size g _ _ _ (xs ++ keyV ⟨k, n, s⟩) by have := H4.out; rw [List.take_of_length_le (by omega)] at this; rw [HT.out]; simpa using this)
          go_roundw
          case rel => exact ⟨m + 1, by omega, by go_num, by rw [HSn.out]; exact HC.out.done, HC.out.bel⟩
          case measure => simp [intOf]; omega
end Go.Proofs.YtmdofdaiepilbaaGreatDoor
