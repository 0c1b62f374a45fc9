/- Plain facts: bytes with their check, four bytes of which that stand side by side are changed, have their check no more. No program in sight. -/
import Derived.Test.YtjkgafijifkfcaaCrcTake
namespace Go.Proofs.Ytjkgafijifkfcaa.Crc

theorem mstep_xor (a b : BitVec 32) (x y z : Int) (h : BitVec.ofInt 32 z = BitVec.ofInt 32 x ^^^ BitVec.ofInt 32 y) : mstep (a ^^^ b) z = mstep a x ^^^ mstep b y := by
  unfold mstep
  rw [← stepN_xor, h]
  congr 1
  ac_rfl
theorem mrun_diff (b : BitVec 32) : ∀ (l : List Int) (a : BitVec 32), mrun (a ^^^ b) l = mrun a l ^^^ stepN (8 * l.length) b
  | l, a => by
    induction l generalizing a b with
    | nil => simp [mrun, stepN]
    | cons x l ih =>
      have h0 : mstep (a ^^^ b) x = mstep a x ^^^ stepN 8 b := by
        unfold mstep
        rw [← stepN_xor]
        congr 1
        ac_rfl
      simp only [mrun, List.foldl_cons] at ih ⊢
      rw [h0, ih, ← stepN_add]
      simp only [List.length_cons]
      rw [show 8 * l.length + 8 = 8 * (l.length + 1) from by omega]
theorem mrun_append (a : BitVec 32) (l m : List Int) : mrun a (l ++ m) = mrun (mrun a l) m := by unfold mrun; rw [List.foldl_append]
theorem byte_shift (y b : BitVec 32) (n : Nat) (hn : n ≤ 24) (hb : b.toNat < 256) : stepN n y ^^^ b = stepN n (y ^^^ (b <<< n)) := by
  rw [stepN_xor, stepN_low n (b <<< n) (fun i hi => by simp [hi])]
  congr 1
  apply BitVec.eq_of_getLsbD_eq
  intro i hi
  simp only [BitVec.getLsbD_ushiftRight, BitVec.getLsbD_shiftLeft]
  by_cases h : n + i < 32
  · simp [h]
  · have : b.getLsbD i = false := byte_high b hb i (by omega)
    simp [this, h]
/-- four bytes, the lowest first, are the number -/
theorem step_16 (X : BitVec 32) : stepN 8 (stepN 8 X) = stepN 16 X := (stepN_add 8 8 X).symm
theorem step_24 (X : BitVec 32) : stepN 8 (stepN 16 X) = stepN 24 X := (stepN_add 8 16 X).symm
theorem step_32 (X : BitVec 32) : stepN 8 (stepN 24 X) = stepN 32 X := (stepN_add 8 24 X).symm
attribute [local irreducible] stepN
theorem mrun_four (c : BitVec 32) (b0 b1 b2 b3 : Int) (_h0 : 0 ≤ b0 ∧ b0 < 256) (h1 : 0 ≤ b1 ∧ b1 < 256) (h2 : 0 ≤ b2 ∧ b2 < 256) (h3 : 0 ≤ b3 ∧ b3 < 256) :
    mrun c [b0, b1, b2, b3] = stepN 32 (c ^^^ (BitVec.ofInt 32 b0 ^^^ (BitVec.ofInt 32 b1 <<< 8) ^^^ (BitVec.ofInt 32 b2 <<< 16) ^^^ (BitVec.ofInt 32 b3 <<< 24))) := by
  have lt : ∀ b : Int, 0 ≤ b ∧ b < 256 → (BitVec.ofInt 32 b).toNat < 256 := fun b h => by rw [ofInt_byte b h]; omega
  have l1 := lt b1 h1
  have l2 := lt b2 h2
  have l3 := lt b3 h3
  simp only [mrun, List.foldl_cons, List.foldl_nil, mstep]
  generalize BitVec.ofInt 32 b0 = B0 at *
  generalize BitVec.ofInt 32 b1 = B1 at *
  generalize BitVec.ofInt 32 b2 = B2 at *
  generalize BitVec.ofInt 32 b3 = B3 at *
  rw [byte_shift (c ^^^ B0) B1 8 (by omega) l1, step_16, byte_shift _ B2 16 (by omega) l2, step_24, byte_shift _ B3 24 (by omega) l3, step_32]
  congr 1
  simp only [BitVec.xor_assoc]
theorem parts (w : BitVec 32) : BitVec.ofInt 32 ((w.toNat : Int) % 256) ^^^ (BitVec.ofInt 32 ((w.toNat : Int) / 256 % 256) <<< 8) ^^^ (BitVec.ofInt 32 ((w.toNat : Int) / 65536 % 256) <<< 16) ^^^ (BitVec.ofInt 32 ((w.toNat : Int) / 16777216) <<< 24) = w := by
  have p : ∀ n : Nat, BitVec.ofInt 32 ((w.toNat : Int) / (2 ^ n : Nat) % 256) = (w >>> n) &&& 255#32 := fun n => by
    apply BitVec.eq_of_toNat_eq
    rw [ofInt_byte _ (by omega), BitVec.toNat_and, BitVec.toNat_ushiftRight, Nat.shiftRight_eq_div_pow]
    show _ = w.toNat / 2 ^ n &&& 255
    rw [and255, ← Int.natCast_ediv]
    omega
  have q : BitVec.ofInt 32 ((w.toNat : Int) / 16777216) = (w >>> 24) &&& 255#32 := by
    have h := u32_of w
    rw [show (w.toNat : Int) / 16777216 = (w.toNat : Int) / 16777216 % 256 from by omega]
    exact p 24
  have p0 := p 0
  have p1 := p 8
  have p2 := p 16
  simp only [Nat.reducePow, Int.ediv_one, Int.cast_ofNat_Int] at p0 p1 p2
  rw [q, p1, p2, p0]
  apply BitVec.eq_of_getLsbD_eq
  intro i hi
  simp only [BitVec.getLsbD_xor, BitVec.getLsbD_shiftLeft, BitVec.getLsbD_and, BitVec.getLsbD_ushiftRight]
  have m : ∀ j, (255#32).getLsbD j = decide (j < 8) := fun j => by
    by_cases hj : j < 32
    · exact mask_bit j hj
    · rw [BitVec.getLsbD_of_ge _ _ (by omega)]; simp; omega
  simp only [m, hi, decide_true, Bool.true_and]
  by_cases a0 : i < 8
  · simp [a0, show i < 16 from by omega, show i < 24 from by omega]
  · by_cases a1 : i < 16
    · simp [a0, a1, show i < 24 from by omega, show i - 8 < 8 from by omega, show 8 + (i - 8) = i from by omega]
    · by_cases a2 : i < 24
      · simp [a0, a1, a2, show ¬ i - 8 < 8 from by omega, show i - 16 < 8 from by omega, show 16 + (i - 16) = i from by omega]
      · simp [a0, a1, a2, show ¬ i - 8 < 8 from by omega, show ¬ i - 16 < 8 from by omega, show i - 24 < 8 from by omega, show 24 + (i - 24) = i from by omega]
theorem mrun_le4 (c w : BitVec 32) : mrun c (le4 (w.toNat : Int)) = stepN 32 (c ^^^ w) := by
  have h := u32_of w
  unfold le4
  rw [mrun_four c _ _ _ _ (by omega) (by omega) (by omega) (by omega), parts]
/-- what bytes with their check leave -/
theorem mrun_good (l : List Int) : mrun (~~~ (BitVec.ofInt 32 0)) (l ++ le4 (more 0 l)) = stepN 32 (BitVec.allOnes 32) := by
  rw [mrun_append]
  unfold more
  rw [mrun_le4]
  congr 1
  apply BitVec.eq_of_getLsbD_eq
  intro i hi
  rw [BitVec.getLsbD_xor, BitVec.getLsbD_not, BitVec.getLsbD_allOnes]
  simp only [hi, decide_true, Bool.true_and]
  cases (mrun (~~~ (BitVec.ofInt 32 0)) l).getLsbD i <;> rfl
theorem mrun_xor4 (a b : BitVec 32) (c0 c1 c2 c3 w0 w1 w2 w3 d0 d1 d2 d3 : Int) (h0 : BitVec.ofInt 32 d0 = BitVec.ofInt 32 c0 ^^^ BitVec.ofInt 32 w0) (h1 : BitVec.ofInt 32 d1 = BitVec.ofInt 32 c1 ^^^ BitVec.ofInt 32 w1)
    (h2 : BitVec.ofInt 32 d2 = BitVec.ofInt 32 c2 ^^^ BitVec.ofInt 32 w2) (h3 : BitVec.ofInt 32 d3 = BitVec.ofInt 32 c3 ^^^ BitVec.ofInt 32 w3) :
    mrun (a ^^^ b) [d0, d1, d2, d3] = mrun a [c0, c1, c2, c3] ^^^ mrun b [w0, w1, w2, w3] := by
  simp only [mrun, List.foldl_cons, List.foldl_nil]
  rw [mstep_xor a b c0 w0 d0 h0, mstep_xor _ _ c1 w1 d1 h1, mstep_xor _ _ c2 w2 d2 h2, mstep_xor _ _ c3 w3 d3 h3]
theorem burst (pre post l : List Int) (c0 c1 c2 c3 d0 d1 d2 d3 : Int) (w : BitVec 32) (hC : l ++ le4 (more 0 l) = pre ++ [c0, c1, c2, c3] ++ post)
    (h0 : BitVec.ofInt 32 d0 = BitVec.ofInt 32 c0 ^^^ BitVec.ofInt 32 ((w.toNat : Int) % 256)) (h1 : BitVec.ofInt 32 d1 = BitVec.ofInt 32 c1 ^^^ BitVec.ofInt 32 ((w.toNat : Int) / 256 % 256))
    (h2 : BitVec.ofInt 32 d2 = BitVec.ofInt 32 c2 ^^^ BitVec.ofInt 32 ((w.toNat : Int) / 65536 % 256)) (h3 : BitVec.ofInt 32 d3 = BitVec.ofInt 32 c3 ^^^ BitVec.ofInt 32 ((w.toNat : Int) / 16777216))
    (hw : w ≠ 0#32) : goodB (pre ++ [d0, d1, d2, d3] ++ post) = false := by
  cases hg : goodB (pre ++ [d0, d1, d2, d3] ++ post) with
  | false => rfl
  | true =>
    exfalso
    have hT := of_decide_eq_true hg
    have e1 := mrun_good (own (pre ++ [d0, d1, d2, d3] ++ post))
    rw [hT] at e1
    have e2 := mrun_good l
    rw [hC] at e2
    rw [mrun_append, mrun_append] at e1 e2
    generalize mrun (~~~ (BitVec.ofInt 32 0)) pre = s at *
    have e3 := mrun_xor4 s 0#32 c0 c1 c2 c3 _ _ _ _ d0 d1 d2 d3 h0 h1 h2 h3
    have e4 := mrun_le4 0#32 w
    unfold le4 at e4
    rw [e4, BitVec.xor_zero, BitVec.zero_xor] at e3
    rw [e3, mrun_diff, e2] at e1
    have e5 : stepN (8 * post.length) (stepN 32 w) = 0#32 := by
      have := congrArg (fun x => BitVec.xor (stepN 32 (BitVec.allOnes 32)) x) e1
      have e6 : stepN 32 (BitVec.allOnes 32) ^^^ (stepN 32 (BitVec.allOnes 32) ^^^ stepN (8 * post.length) (stepN 32 w)) = stepN 32 (BitVec.allOnes 32) ^^^ stepN 32 (BitVec.allOnes 32) := this
      rwa [← BitVec.xor_assoc, BitVec.xor_self, BitVec.zero_xor] at e6
    exact hw (stepN_ne _ _ (stepN_ne _ _ e5))
end Go.Proofs.Ytjkgafijifkfcaa.Crc
