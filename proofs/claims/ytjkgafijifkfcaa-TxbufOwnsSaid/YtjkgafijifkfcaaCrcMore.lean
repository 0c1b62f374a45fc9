/- crc.More and crc.Sum come to the check as the plain text reckons it, for slices that read as bytes. Conditions: the slice reads as bytes. -/
import Derived.Test.YtjkgafijifkfcaaTable
import Derived.Test.YtjkgafijifkfcaaCrcPure
import Derived.Laws.BitsAllLaws
namespace Go.Proofs.Ytjkgafijifkfcaa
open Go.RowKit Go.Proofs.YtjkgafijifkfcaaW.PrintWords
set_option linter.unusedVariables false
set_option linter.unusedSimpArgs false
attribute [local go_sem, local simp] zero69 zc69_size tabc_size zc69_ne

theorem u32_of (b : BitVec 32) : b.toNat < 4294967296 := b.isLt
theorem stp_step (b : BitVec 32) : stp (b.toNat : Int) = ((Crc.step b).toNat : Int) := by
  have h1 : Go.bits .and .u32 (b.toNat : Int) 1 = ((b.toNat &&& 1 : Nat) : Int) := u32_and_nat b.toNat 1 (u32_of b) (by omega)
  have h2 : (b.toNat &&& 1) = b.toNat % 2 := Nat.and_one_is_mod _
  unfold stp
  rw [h1, h2]
  have h0 : b.getLsbD 0 = decide (b.toNat % 2 = 1) := by rw [BitVec.getLsbD, Nat.testBit_zero]
  unfold Crc.step
  rw [h0]
  rcases Nat.mod_two_eq_zero_or_one b.toNat with h | h
  · rw [h]
    have := u32_xor_nat (b.toNat / 2) 0 (by have := u32_of b; omega) (by omega)
    simp only [Nat.xor_zero] at this
    have e : (3988292384 * ((0 : Nat) : Int)) % 4294967296 = ((0 : Nat) : Int) := by decide
    rw [e, show ((b.toNat : Int) / 2) = ((b.toNat / 2 : Nat) : Int) from by omega, this]
    simp [BitVec.toNat_ushiftRight, Nat.shiftRight_eq_div_pow]
  · rw [h]
    have := u32_xor_nat (b.toNat / 2) 3988292384 (by have := u32_of b; omega) (by omega)
    have e : (3988292384 * ((1 : Nat) : Int)) % 4294967296 = ((3988292384 : Nat) : Int) := by decide
    rw [e, show ((b.toNat : Int) / 2) = ((b.toNat / 2 : Nat) : Int) from by omega, this]
    simp [BitVec.toNat_ushiftRight, Nat.shiftRight_eq_div_pow, Crc.P]
theorem stps_stepN (n : Nat) (b : BitVec 32) : stps n (b.toNat : Int) = ((Crc.stepN n b).toNat : Int) := by
  induction n with
  | zero => rfl
  | succ n ih => simp only [stps, Crc.stepN]; rw [ih, stp_step]
/-- the index -/
def ix (c : BitVec 32) (x : Int) : Nat := ((c ^^^ BitVec.ofInt 32 x) &&& 255#32).toNat
theorem ix_lt (c : BitVec 32) (x : Int) : ix c x < 256 := by
  unfold ix; rw [BitVec.toNat_and]; exact Nat.lt_of_le_of_lt Nat.and_le_right (by decide)
theorem ofInt_byte (x : Int) (h : 0 ≤ x ∧ x < 256) : (BitVec.ofInt 32 x).toNat = x.toNat := by
  rw [BitVec.toNat_ofInt]; simp; omega
theorem and255 (n : Nat) : n &&& 255 = n % 256 := Nat.and_two_pow_sub_one_eq_mod n 8
theorem ix_bits (c : BitVec 32) (x : Int) (h : 0 ≤ x ∧ x < 256) : Go.bits .xor .u8 ((c.toNat : Int) % 256) x = (ix c x : Int) := by
  obtain ⟨n, rfl⟩ := Int.eq_ofNat_of_zero_le h.1
  have := u8_xor_nat (c.toNat % 256) n (by omega) (by omega)
  rw [show ((c.toNat : Int) % 256) = ((c.toNat % 256 : Nat) : Int) from by omega, this]
  unfold ix
  rw [BitVec.toNat_and, BitVec.toNat_xor, ofInt_byte _ h, Int.toNat_natCast]
  show _ = (((c.toNat ^^^ n) &&& 255 : Nat) : Int)
  rw [and255, show (256 : Nat) = 2 ^ 8 from rfl, Nat.xor_mod_two_pow, Nat.mod_eq_of_lt (a := n) (by omega)]
theorem tb_step (k : BitVec 32) : tb k.toNat = ((Crc.stepN 8 k).toNat : Int) := stps_stepN 8 k
theorem next_bits (c : BitVec 32) (x : Int) (h : 0 ≤ x ∧ x < 256) : Go.bits .xor .u32 ((c.toNat : Int) / 256) (tb (ix c x)) = ((Crc.mstep c x).toNat : Int) := by
  unfold ix
  rw [tb_step, show ((c.toNat : Int) / 256) = ((c.toNat / 256 : Nat) : Int) from by omega, u32_xor_nat _ _ (by have := u32_of c; omega) (u32_of _)]
  unfold Crc.mstep
  rw [Crc.step8_table c _ (by rw [ofInt_byte x h]; omega), BitVec.toNat_xor, BitVec.toNat_ushiftRight, Nat.shiftRight_eq_div_pow]
theorem not_bits (s : Int) : Go.bits .xor .u32 IntKind.u32.max (s % 4294967296) = ((~~~ (BitVec.ofInt 32 s)).toNat : Int) := by
  have e : (BitVec.ofInt 32 s).toNat = (s % 4294967296).toNat := by rw [BitVec.toNat_ofInt]; rfl
  have h := u32_of (BitVec.ofInt 32 s)
  rw [show IntKind.u32.max = ((4294967295 : Nat) : Int) from by decide, show s % 4294967296 = (((BitVec.ofInt 32 s).toNat : Nat) : Int) from by rw [e]; omega, u32_xor_nat _ _ (by omega) h]
  rw [← BitVec.allOnes_xor, BitVec.toNat_xor]
  rfl
theorem not_bits' (b : BitVec 32) : Go.bits .xor .u32 IntKind.u32.max (b.toNat : Int) = ((~~~ b).toNat : Int) := by
  rw [show IntKind.u32.max = ((4294967295 : Nat) : Int) from by decide, u32_xor_nat _ _ (by omega) (u32_of b)]
  rw [← BitVec.allOnes_xor, BitVec.toNat_xor]
  rfl
theorem tabc_get (i : Nat) (h : i < 256) : (tabc 256)[i]? = some (.int .u32 (tb i)) := by
  simp [tabc, tabl, h]

attribute [local irreducible] tabc zc69
set_option maxRecDepth 20000 in
set_option maxHeartbeats 1000000 in
theorem crc_More_calls (s : Int) (A : Option Addr) (c : Nat) (l : List Int) (w : World) (hr : Kd.C (Kd.int .u8) w A l.length l) (hb : Crc.Bytes l) :
    Calls Try.prog 18 #[.int .i64 s, .slice A l.length c] w fun e w' => e = .returned (.int .i64 (Crc.more s l)) ∧ Below w.heap.size w w' := by
  have HR := Aside0.mk hr
  have HB := Aside0.mk hb
  have hlen : l.length ≤ 9223372036854775807 := hr.2.1
  clear hr hb
  go_enter Try.func18, Try.ntmps18
  go_wp2_with (first
    | (go_at_call 36; refine (table_any _).mono ?_; rintro e w1 ⟨rfl, hb1⟩)
    | (with_reducible refine wpList_store_row rfl 69 (.tmp 6) (.tmp 12) rfl w1.heap.size (tabc 256) rfl rfl 69 zc69 (heap_alloc_new _ _) (by rw [tabc_size]; kernel_rfl) (by rw [zc69_size, tabc_size]) (tabc_one _) ?_))
  have hb2 : Below w.heap.size w ((w1.alloc (.cells zc69 69)).setRow w1.heap.size (tabc 256)) := below_setRow (hb1.alloc hb1.size _) hb1.size _
  have hcell : ∀ i, i < 256 → ((w1.alloc (.cells zc69 69)).setRow w1.heap.size (tabc 256)).cell? ⟨w1.heap.size, i, none⟩ = some (.int .u32 (tb i)) := fun i hi => by
    rw [cell_of_row _ _ i _ 69 (0, 0) (setRow_heap _ _ _ _ _ _ (heap_alloc_new _ _))]; exact tabc_get i hi
  have HR2 := Aside0.mk (Kd.C_below HR.out (hb2.mono (Nat.le_refl _)))
  have HB2 := Aside0.mk hb2
  clear hb2
  generalize hW : (w1.alloc (.cells zc69 69)).setRow w1.heap.size (tabc 256) = W2 at *
  have HW := Aside0.mk hW
  clear hW
  have HC := Aside0.mk hcell
  clear hcell
  go_loop [5, 15] (fun v i => ∃ k : Nat, k ≤ l.length ∧ i = .int .i64 k ∧ v = .int .u32 ((Crc.mrun (~~~ (BitVec.ofInt 32 s)) (l.take k)).toNat)) (fun _ i => l.length - (intOf i).toNat)
  case atStart => exact ⟨0, by omega, rfl, by rw [not_bits]; rfl⟩
  case round =>
    obtain ⟨k, hk, rfl, rfl⟩ := hrel
    by_cases hlt : k < l.length
    · have hx : 0 ≤ l[k] ∧ l[k] < 256 := HB.out _ (List.getElem_mem hlt)
      generalize hc : Crc.mrun (~~~ (BitVec.ofInt 32 s)) (l.take k) = cc
      have Hc := Aside0.mk hc
      clear hc
      obtain ⟨ad, e, hx0⟩ := Kd.at_int HR2.out (k : Int) (by omega) (by omega)
      cases e
      rw [Int.toNat_natCast] at hx0
      have hrd : rd l k = l[k] := by simp [rd, hlt]
      rw [hrd] at hx0
      clear hrd
      generalize hxx : l[k] = x at *
      have Hx := Aside0.mk hxx
      have Hxr := Aside0.mk hx
      have hixc : W2.cell? ⟨w1.heap.size, (Go.bits .xor .u8 ((cc.toNat : Int) % 256) x).toNat, none⟩ = some (.int .u32 (tb (ix cc x))) := by
        rw [ix_bits cc x hx, Int.toNat_natCast]; exact HC.out (ix cc x) (ix_lt _ _)
      have hi0 : 0 ≤ Go.bits .xor .u8 ((cc.toNat : Int) % 256) x := by rw [ix_bits cc x hx]; omega
      have hi1 : Go.bits .xor .u8 ((cc.toNat : Int) % 256) x < 256 := by rw [ix_bits cc x hx]; have := ix_lt cc x; omega
      clear hxx hx
      go_wp2
      go_round
      case rel =>
        refine ⟨k + 1, by omega, by go_num, ?_⟩
        rw [next_bits cc x Hxr.out, ← Hc.out, ← Hx.out, List.take_succ_eq_append_getElem hlt]
        simp only [Crc.mrun, List.foldl_append, List.foldl_cons, List.foldl_nil]
      case measure => simp [intOf]; omega
    · obtain rfl : k = l.length := by omega
      go_wp2
      go_ret
      refine ⟨?_, HB2.out⟩
      refine congrArg (fun z => Ending.returned (Value.int .i64 z)) ?_
      show wrap64 _ = _
      rw [not_bits']
      unfold wrap64 Crc.more
      have := u32_of (~~~Crc.mrun (~~~BitVec.ofInt 32 s) l)
      omega

set_option maxHeartbeats 400000 in
theorem crc_Sum_calls (A : Option Addr) (c : Nat) (l : List Int) (w : World) (hr : Kd.C (Kd.int .u8) w A l.length l) (hb : Crc.Bytes l) :
    Calls Try.prog 17 #[.slice A l.length c] w fun e w' => e = .returned (.int .i64 (Crc.more 0 l)) ∧ Below w.heap.size w w' := by
  have HR := Aside0.mk hr
  have HB := Aside0.mk hb
  clear hr hb
  go_enter Try.func17, Try.ntmps17
  go_wp2_with (go_at_call 18; refine (crc_More_calls 0 A c l _ HR.out HB.out).mono ?_; rintro e w1 ⟨rfl, hb1⟩)
  go_ret
  exact ⟨rfl, hb1⟩
end Go.Proofs.Ytjkgafijifkfcaa
