/- The reference's More and Sum, few and lives: what they come to. Conditions: the slices read as bytes. -/
import Derived.Test.YtjkgafijifkfcaaCrcMore
import Derived.Lib.SlBytesConst
namespace Go.Proofs.Ytjkgafijifkfcaa
open Go.RowKit Go.Proofs.YtjkgafijifkfcaaW.PrintWords
set_option linter.unusedVariables false
set_option linter.unusedSimpArgs false

theorem ref_start (s : Int) : Go.bits .xor .u32 (s % 4294967296) 4294967295 = ((~~~ (BitVec.ofInt 32 s)).toNat : Int) := by
  have e : (BitVec.ofInt 32 s).toNat = (s % 4294967296).toNat := by rw [BitVec.toNat_ofInt]; rfl
  have h := u32_of (BitVec.ofInt 32 s)
  rw [show s % 4294967296 = (((BitVec.ofInt 32 s).toNat : Nat) : Int) from by rw [e]; omega]
  have := u32_xor_nat (BitVec.ofInt 32 s).toNat 4294967295 h (by omega)
  rw [show (4294967295 : Int) = ((4294967295 : Nat) : Int) from rfl, this, ← BitVec.xor_allOnes, BitVec.toNat_xor]
  rfl
theorem ref_byte (c : BitVec 32) (x : Int) (h : 0 ≤ x ∧ x < 256) : Go.bits .xor .u32 (c.toNat : Int) x = ((c ^^^ BitVec.ofInt 32 x).toNat : Int) := by
  obtain ⟨n, rfl⟩ := Int.eq_ofNat_of_zero_le h.1
  rw [u32_xor_nat _ _ (u32_of c) (by omega), BitVec.toNat_xor, ofInt_byte _ h, Int.toNat_natCast]
theorem ref_odd (c : BitVec 32) (h : (c.toNat : Int) % 2 = 1) : Go.bits .xor .u32 ((c.toNat : Int) / 2) 3988292384 = ((Crc.step c).toNat : Int) := by
  rw [← stp_step]
  unfold stp
  have h1 : Go.bits .and .u32 (c.toNat : Int) 1 = ((c.toNat &&& 1 : Nat) : Int) := u32_and_nat c.toNat 1 (u32_of c) (by omega)
  rw [h1, Nat.and_one_is_mod, show c.toNat % 2 = 1 from by omega]
  rfl
theorem ref_even (c : BitVec 32) (h : ¬ (c.toNat : Int) % 2 = 1) : ((c.toNat : Int) / 2) = ((Crc.step c).toNat : Int) := by
  rw [← stp_step]
  unfold stp
  have h1 : Go.bits .and .u32 (c.toNat : Int) 1 = ((c.toNat &&& 1 : Nat) : Int) := u32_and_nat c.toNat 1 (u32_of c) (by omega)
  rw [h1, Nat.and_one_is_mod, show c.toNat % 2 = 0 from by omega, show (c.toNat : Int) / 2 = ((c.toNat / 2 : Nat) : Int) from by omega]
  have := u32_xor_nat (c.toNat / 2) 0 (by have := u32_of c; omega) (by omega)
  simp only [Nat.xor_zero] at this
  exact this.symm
theorem ref_end (b : BitVec 32) : Go.bits .xor .u32 (b.toNat : Int) 4294967295 = ((~~~ b).toNat : Int) := by
  have := u32_xor_nat b.toNat 4294967295 (u32_of b) (by omega)
  rw [show (4294967295 : Int) = ((4294967295 : Nat) : Int) from rfl, this, ← BitVec.xor_allOnes, BitVec.toNat_xor]
  rfl

set_option maxHeartbeats 1000000 in
theorem ref_More_calls (s : Int) (A : Option Addr) (c : Nat) (l : List Int) (w : World) (hr : Kd.C (Kd.int .u8) w A l.length l) (hb : Crc.Bytes l) :
    Calls Try.prog 19 #[.int .i64 s, .slice A l.length c] w fun e w' => e = .returned (.int .i64 (Crc.more s l)) ∧ w = w' := by
  have HR := Aside0.mk hr
  have HB := Aside0.mk hb
  have hlen : l.length ≤ 9223372036854775807 := hr.2.1
  clear hr hb
  go_enter Try.func19, Try.ntmps19
  go_wp2
  go_loop [5, 6] (fun v i => ∃ k : Nat, k ≤ l.length ∧ i = .int .i64 k ∧ v = .int .u32 ((Crc.mrun (~~~ (BitVec.ofInt 32 s)) (l.take k)).toNat)) (fun _ i => l.length - (intOf i).toNat)
  case atStart => exact ⟨0, by omega, rfl, by rw [ref_start]; rfl⟩
  case round =>
    obtain ⟨k, hk, rfl, rfl⟩ := hrel
    by_cases hlt : k < l.length
    · have hx : 0 ≤ l[k] ∧ l[k] < 256 := HB.out _ (List.getElem_mem hlt)
      generalize hc : Crc.mrun (~~~ (BitVec.ofInt 32 s)) (l.take k) = cc
      have Hc := Aside0.mk hc
      clear hc
      obtain ⟨ad, e, hx0⟩ := Kd.at_int HR.out (k : Int) (by omega) (by omega)
      cases e
      rw [Int.toNat_natCast] at hx0
      have hrd : rd l k = l[k] := by simp [rd, hlt]
      rw [hrd] at hx0
      clear hrd
      generalize hxx : l[k] = x at *
      have Hx := Aside0.mk hxx
      have Hxr := Aside0.mk hx
      have hx4 : x % 4294967296 = x := by omega
      clear hxx
      go_wp2
      clear hx4
      go_loop [5, 7] (fun v i => ∃ m : Nat, m ≤ 8 ∧ i = .int .i64 m ∧ v = .int .u32 ((Crc.stepN m (cc ^^^ BitVec.ofInt 32 x)).toNat)) (fun _ i => 8 - (intOf i).toNat)
      case atStart => exact ⟨0, by omega, rfl, by rw [ref_byte cc x Hxr.out]; rfl⟩
      case round =>
        obtain ⟨m, hm, rfl, rfl⟩ := hrel
        by_cases h8 : m < 8
        · generalize hd : Crc.stepN m (cc ^^^ BitVec.ofInt 32 x) = dd
          have Hd := Aside0.mk hd
          clear hd
          by_cases h2 : (dd.toNat : Int) % 2 = 1
          · have h2' : ((dd.toNat : Int) % 2 == 1) = true := beq_iff_eq.mpr h2
            have H2 := Aside0.mk h2
            clear h2
            go_wp2
            go_round
            case rel => exact ⟨m + 1, by omega, by go_num, by rw [ref_odd dd H2.out, ← Hd.out]; rfl⟩
            case measure => simp [intOf]; omega
          · have h2' : ((dd.toNat : Int) % 2 == 1) = false := beq_eq_false_iff_ne.mpr h2
            have H2 := Aside0.mk h2
            clear h2
            go_wp2
            go_round
            case rel => exact ⟨m + 1, by omega, by go_num, by rw [ref_even dd H2.out, ← Hd.out]; rfl⟩
            case measure => simp [intOf]; omega
        · obtain rfl : m = 8 := by omega
          go_wp2
          go_round
          case rel =>
            refine ⟨k + 1, by omega, by go_num, ?_⟩
            rw [← Hc.out, ← Hx.out, List.take_succ_eq_append_getElem hlt]
            simp only [Crc.mrun, List.foldl_append, List.foldl_cons, List.foldl_nil]
            rfl
          case measure => simp [intOf]; omega
    · obtain rfl : k = l.length := by omega
      go_wp2
      go_ret
      refine ⟨?_, rfl⟩
      refine congrArg (fun z => Ending.returned (Value.int .i64 z)) ?_
      show wrap64 _ = _
      rw [ref_end]
      unfold wrap64 Crc.more
      have := u32_of (~~~Crc.mrun (~~~BitVec.ofInt 32 s) l)
      omega

set_option maxHeartbeats 400000 in
theorem ref_Sum_calls (A : Option Addr) (c : Nat) (l : List Int) (w : World) (hr : Kd.C (Kd.int .u8) w A l.length l) (hb : Crc.Bytes l) :
    Calls Try.prog 16 #[.slice A l.length c] w fun e w' => e = .returned (.int .i64 (Crc.more 0 l)) ∧ w = w' := by
  have HR := Aside0.mk hr
  have HB := Aside0.mk hb
  clear hr hb
  go_enter Try.func16, Try.ntmps16
  go_wp2_with (go_at_call 19; refine (ref_More_calls 0 A c l _ HR.out HB.out).mono ?_; rintro e w1 ⟨rfl, rfl⟩)
  go_ret
  exact ⟨rfl, rfl⟩

theorem C_bytes {w : World} {A : Option Addr} {n : Nat} {l : List Int} (h1 : l.length = n) (h2 : n ≤ 9223372036854775807) (h : 0 < n → ∃ ad, A = some ad ∧ ∀ j, j < n → w.cell? (ad.add j) = some (.int .u8 (l.getD j 0))) : Kd.C (Kd.int .u8) w A n l :=
  Kd.C_of_reads (d := (0 : Int)) ⟨h1, h2, h⟩
theorem C_cells {w : World} {A : Option Addr} {n : Nat} {l : List Int} (h : Kd.C (Kd.int .u8) w A n l) : l.length = n ∧ n ≤ 9223372036854775807 ∧ (0 < n → ∃ ad, A = some ad ∧ ∀ j, j < n → w.cell? (ad.add j) = some (.int .u8 (l.getD j 0))) :=
  Kd.reads_of_C (enc := Value.int .u8) (d := (0 : Int)) (h1 := fun _ => rfl) h
/-- a beginning of a slice reads -/
theorem C_take {w : World} {A : Option Addr} {l : List Int} (h : Kd.C (Kd.int .u8) w A l.length l) (m : Nat) : Kd.C (Kd.int .u8) w A (l.take m).length (l.take m) := by
  obtain ⟨h1, h2, h3⟩ := C_cells h
  have hl : (l.take m).length ≤ l.length := by simp; omega
  refine C_bytes rfl (by omega) fun h0 => ?_
  obtain ⟨ad, e, hc⟩ := h3 (by omega)
  refine ⟨ad, e, fun j hj => ?_⟩
  rw [hc j (by omega)]
  have : j < m := by simp at hj; omega
  simp [List.getD_eq_getElem?_getD, List.getElem?_take, this]

set_option maxHeartbeats 400000 in
theorem few_calls (A : Option Addr) (c : Nat) (l : List Int) (w : World) (hc : l.length ≤ c) (hl : l.length ≤ 9223372036854775807) :
    Calls Try.prog 15 #[.slice A l.length c] w fun e w' => e = .returned (.slice A (l.take 200).length c) ∧ w = w' := by
  by_cases h : 200 < l.length
  · have hn : (l.take 200).length = 200 := by simp; omega
    rw [hn]
    clear hn
    go_enter Try.func15, Try.ntmps15
    go_wp2
    go_ret
    exact ⟨rfl, rfl⟩
  · have hn : (l.take 200).length = l.length := by simp; omega
    rw [hn]
    clear hn
    go_enter Try.func15, Try.ntmps15
    go_wp2
    go_ret
    exact ⟨rfl, rfl⟩

theorem lives_a : Crc.more 0 [49, 50, 51, 52, 53, 54, 55, 56, 57] = 3421780262 := by decide +kernel
theorem lives_b : Crc.more 0 [] = 0 := by decide +kernel
def nine : Array Value := #[.int .u8 49, .int .u8 50, .int .u8 51, .int .u8 52, .int .u8 53, .int .u8 54, .int .u8 55, .int .u8 56, .int .u8 57]
theorem sum_nine (w : World) : Calls Try.prog 17 #[.slice (some ⟨w.heap.size, 0, none⟩) 9 9] (w.alloc (.cells #[.int .u8 49, .int .u8 50, .int .u8 51, .int .u8 52, .int .u8 53, .int .u8 54, .int .u8 55, .int .u8 56, .int .u8 57] 5 (9, 10))) fun e w' => e = .returned (.int .i64 3421780262) ∧ Below (w.heap.size + 1) (w.alloc (.cells nine 5 (9, 10))) w' := by
  have HA : Kd.C (Kd.int .u8) (w.alloc (.cells nine 5 (9, 10))) (some ⟨w.heap.size, 0, none⟩) 9 [49, 50, 51, 52, 53, 54, 55, 56, 57] := by
    refine C_bytes rfl (by omega) fun _ => ⟨_, rfl, fun j hj => ?_⟩
    rw [show (⟨w.heap.size, 0, none⟩ : Addr).add j = ⟨w.heap.size, j, none⟩ from add_plain _ _, cell_of_row _ _ j _ 5 (9, 10) (heap_alloc_new _ _)]
    match j, hj with
    | 0, _ => rfl | 1, _ => rfl | 2, _ => rfl | 3, _ => rfl | 4, _ => rfl | 5, _ => rfl | 6, _ => rfl | 7, _ => rfl | 8, _ => rfl
  have h := crc_Sum_calls _ 9 [49, 50, 51, 52, 53, 54, 55, 56, 57] _ HA (by intro x hx; simp at hx; omega)
  refine h.mono fun e w' ⟨he, hb⟩ => ⟨by rw [he, lives_a], ?_⟩
  simpa using hb
theorem sum_none (w : World) : Calls Try.prog 17 #[.slice none 0 0] w fun e w' => e = .returned (.int .i64 0) ∧ Below w.heap.size w w' := by
  have h := crc_Sum_calls none 0 [] w (Kd.C_nil _ _) (by intro x hx; simp at hx)
  exact h.mono fun e w' ⟨he, hb⟩ => ⟨by rw [he, lives_b], hb⟩
set_option maxHeartbeats 400000 in
theorem lives_calls (w : World) : Calls Try.prog 20 #[] w fun e w' => e = .returned (.bool true) ∧ Below w.heap.size w w' := by
  go_enter Try.func20, Try.ntmps20
  have kc := fun (w : World) (C : Array Value) (n c : Nat) => Lib.run_convert_bytes_const (P := Try.prog) w 22 5 C n c Try.underlying22 Try.underlying5
  go_wp2_with (first
    | (go_at_call 17; (with_reducible refine (sum_nine _).mono ?_); rintro e w1 ⟨rfl, hb1⟩)
    | (go_at_call 17; (with_reducible refine (sum_none _).mono ?_); rintro e w2 ⟨rfl, hb2⟩))
  go_ret
  exact ⟨rfl, (((Below.refl _ _).alloc (Nat.le_refl _) _).trans (hb1.mono (by simp))).trans (hb2.mono (by have := hb1.size; simp at this; omega))⟩
end Go.Proofs.Ytjkgafijifkfcaa
