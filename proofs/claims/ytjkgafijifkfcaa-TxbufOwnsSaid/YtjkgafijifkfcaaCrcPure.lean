/- Plain facts about the check of chapter 2: one halving is linear and one to one; eight halvings go by a table. No program in sight. -/
namespace Go.Proofs.Ytjkgafijifkfcaa.Crc

def P : BitVec 32 := 3988292384#32
/-- one halving -/
def step (c : BitVec 32) : BitVec 32 := (c >>> 1) ^^^ (if c.getLsbD 0 then P else 0#32)
def stepN : Nat → BitVec 32 → BitVec 32
  | 0, c => c
  | n + 1, c => step (stepN n c)

theorem stepN_add (m n : Nat) (c : BitVec 32) : stepN (m + n) c = stepN m (stepN n c) := by
  induction m with
  | zero => simp [stepN]
  | succ m ih => rw [Nat.succ_add]; simp only [stepN]; rw [ih]

theorem step_xor (a b : BitVec 32) : step (a ^^^ b) = step a ^^^ step b := by
  unfold step
  rw [BitVec.ushiftRight_xor_distrib, BitVec.getLsbD_xor]
  cases ha : a.getLsbD 0 <;> cases hb : b.getLsbD 0 <;> simp
  · rw [BitVec.xor_assoc]
  · rw [BitVec.xor_assoc, BitVec.xor_assoc, BitVec.xor_comm P]
  · rw [BitVec.xor_assoc, ← BitVec.xor_assoc P, BitVec.xor_comm P, BitVec.xor_assoc _ P P]; simp

theorem stepN_xor (n : Nat) (a b : BitVec 32) : stepN n (a ^^^ b) = stepN n a ^^^ stepN n b := by
  induction n with
  | zero => rfl
  | succ n ih => simp only [stepN]; rw [ih, step_xor]

theorem step_zero : step 0#32 = 0#32 := by decide
theorem stepN_zero (n : Nat) : stepN n 0#32 = 0#32 := by
  induction n with
  | zero => rfl
  | succ n ih => simp only [stepN]; rw [ih, step_zero]

theorem step_ne (a : BitVec 32) (h : step a = 0#32) : a = 0#32 := by
  have h31 : (step a).getLsbD 31 = false := by rw [h]; simp
  have hP : P.getLsbD 31 = true := by decide
  have h0 : a.getLsbD 0 = false := by
    cases hb : a.getLsbD 0 with
    | false => rfl
    | true =>
      unfold step at h31
      rw [hb, if_pos rfl, BitVec.getLsbD_xor, hP, BitVec.getLsbD_ushiftRight] at h31
      simp at h31
  unfold step at h
  rw [h0] at h
  simp at h
  apply BitVec.eq_of_getLsbD_eq
  intro i hi
  by_cases e : i = 0
  · subst e; rw [h0]; simp
  · have := congrArg (fun x => BitVec.getLsbD x (i - 1)) h
    simp only [BitVec.getLsbD_ushiftRight] at this
    rw [show 1 + (i - 1) = i from by omega] at this
    rw [this]; simp

theorem stepN_ne (n : Nat) (a : BitVec 32) (h : stepN n a = 0#32) : a = 0#32 := by
  induction n with
  | zero => exact h
  | succ n ih => exact ih (step_ne _ h)

theorem stepN_inj (n : Nat) (a b : BitVec 32) (h : stepN n a = stepN n b) : a = b := by
  have : stepN n (a ^^^ b) = 0#32 := by rw [stepN_xor, h]; simp
  have := stepN_ne n _ this
  exact BitVec.xor_eq_zero_iff.1 this

theorem stepN_low (n : Nat) : ∀ c : BitVec 32, (∀ i, i < n → c.getLsbD i = false) → stepN n c = c >>> n := by
  induction n with
  | zero => intro c _; simp [stepN]
  | succ n ih =>
    intro c h
    simp only [stepN]
    rw [ih c (fun i hi => h i (by omega))]
    unfold step
    rw [BitVec.getLsbD_ushiftRight, h (n + 0) (by omega)]
    simp only [Bool.false_eq_true, if_false, BitVec.xor_zero]
    rw [← BitVec.shiftRight_add]

theorem byte_high (x : BitVec 32) (hx : x.toNat < 256) (i : Nat) (hi : 8 ≤ i) : x.getLsbD i = false := by
  have h : x.toNat < 2 ^ i := Nat.lt_of_lt_of_le hx (Nat.pow_le_pow_right (by omega) hi : 2 ^ 8 ≤ 2 ^ i)
  rw [BitVec.getLsbD]
  exact Nat.testBit_lt_two_pow h
theorem mask_bit (i : Nat) (hi : i < 32) : (255#32).getLsbD i = decide (i < 8) := by
  revert hi; revert i; decide

/-- eight halvings, by a table over the lowest byte -/
theorem step8_table (c x : BitVec 32) (hx : x.toNat < 256) : stepN 8 (c ^^^ x) = (c >>> 8) ^^^ stepN 8 ((c ^^^ x) &&& 255#32) := by
  have hs : c ^^^ x = ((c >>> 8) <<< 8) ^^^ ((c ^^^ x) &&& 255#32) := by
    apply BitVec.eq_of_getLsbD_eq
    intro i hi
    simp only [BitVec.getLsbD_xor, BitVec.getLsbD_and, BitVec.getLsbD_shiftLeft, BitVec.getLsbD_ushiftRight, mask_bit i hi]
    by_cases h8 : i < 8
    · simp [h8]
    · rw [byte_high x hx i (by omega)]
      simp [h8, hi, show 8 + (i - 8) = i from by omega]
  conv => lhs; rw [hs]
  rw [stepN_xor]
  congr 1
  rw [stepN_low 8 _ (fun i hi => by simp; omega)]
  apply BitVec.eq_of_getLsbD_eq
  intro i hi
  simp only [BitVec.getLsbD_shiftLeft, BitVec.getLsbD_ushiftRight]
  by_cases h : 8 + i < 32
  · simp [h]
  · have : c.getLsbD (8 + i) = false := BitVec.getLsbD_of_ge _ _ (by omega)
    simp [this, h]

/-- the state behind a byte -/
def mstep (c : BitVec 32) (x : Int) : BitVec 32 := stepN 8 (c ^^^ BitVec.ofInt 32 x)
def mrun (c : BitVec 32) (l : List Int) : BitVec 32 := l.foldl mstep c
/-- the check of bytes behind those of sum -/
def more (sum : Int) (l : List Int) : Int := ((~~~ (mrun (~~~ (BitVec.ofInt 32 sum)) l)).toNat : Int)
def Bytes (l : List Int) : Prop := ∀ x, x ∈ l → 0 ≤ x ∧ x < 256

theorem more_range (s : Int) (l : List Int) : 0 ≤ more s l ∧ more s l < 4294967296 := by
  have := (~~~ (mrun (~~~ (BitVec.ofInt 32 s)) l)).isLt
  unfold more
  omega
theorem ofInt_more (s : Int) (l : List Int) : BitVec.ofInt 32 (more s l) = ~~~ (mrun (~~~ (BitVec.ofInt 32 s)) l) := by
  unfold more
  rw [BitVec.ofInt_natCast, BitVec.ofNat_toNat, BitVec.setWidth_eq]
theorem more_more (s : Int) (l m : List Int) : more (more s l) m = more s (l ++ m) := by
  show ((~~~ (mrun (~~~ (BitVec.ofInt 32 (more s l))) m)).toNat : Int) = _
  rw [ofInt_more, BitVec.not_not]
  unfold more mrun
  rw [List.foldl_append]

theorem mrun_xor : ∀ (a b : BitVec 32) (l m : List Int), l.length = m.length → 
    mrun (a ^^^ b) (List.zipWith (fun x y => (BitVec.ofInt 32 x ^^^ BitVec.ofInt 32 y).toInt) l m) = mrun a l ^^^ mrun b m
  | a, b, [], [], _ => rfl
  | a, b, x :: l, y :: m, h => by
    have ih := mrun_xor (mstep a x) (mstep b y) l m (by simpa using h)
    simp only [mrun, List.zipWith_cons_cons, List.foldl_cons] at ih ⊢
    rw [← ih]
    congr 1
    unfold mstep
    rw [← stepN_xor]
    congr 1
    simp only [BitVec.ofInt_toInt]
    ac_rfl
end Go.Proofs.Ytjkgafijifkfcaa.Crc
namespace Go.Proofs.Ytjkgafijifkfcaa.Crc
theorem mrun_xor3 : ∀ (p q r : BitVec 32) (a b c x : List Int), a.length = x.length → b.length = x.length → c.length = x.length →
    (∀ i : Nat, i < x.length → BitVec.ofInt 32 (x.getD i 0) = BitVec.ofInt 32 (a.getD i 0) ^^^ BitVec.ofInt 32 (b.getD i 0) ^^^ BitVec.ofInt 32 (c.getD i 0)) →
    mrun (p ^^^ q ^^^ r) x = mrun p a ^^^ mrun q b ^^^ mrun r c
  | p, q, r, [], [], [], [], _, _, _, _ => rfl
  | p, q, r, a :: al, b :: bl, c :: cl, x :: xl, ha, hb, hc, h => by
    have h0 := h 0 (by simp)
    simp only [List.getD_cons_zero] at h0
    have ih := mrun_xor3 (mstep p a) (mstep q b) (mstep r c) al bl cl xl (by simpa using ha) (by simpa using hb) (by simpa using hc) (fun i hi => by
      have := h (i + 1) (by simpa using hi)
      simpa only [List.getD_cons_succ] using this)
    simp only [mrun, List.foldl_cons] at ih ⊢
    rw [← ih]
    congr 1
    unfold mstep
    rw [← stepN_xor, ← stepN_xor]
    congr 1
    rw [h0]
    ac_rfl
  | _, _, _, [], _, _, _ :: _, ha, _, _, _ => by simp at ha
  | _, _, _, _ :: _, [], _, _ :: _, _, hb, _, _ => by simp at hb
  | _, _, _, _ :: _, _ :: _, [], _ :: _, _, _, hc, _ => by simp at hc
  | _, _, _, _ :: _, _, _, [], ha, _, _, _ => by simp at ha
  | _, _, _, [], _ :: _, _, [], _, hb, _, _ => by simp at hb
  | _, _, _, [], [], _ :: _, [], _, _, hc, _ => by simp at hc
theorem not_xor3 (p q r : BitVec 32) : ~~~ (p ^^^ q ^^^ r) = ~~~ p ^^^ ~~~ q ^^^ ~~~ r := by
  apply BitVec.eq_of_getLsbD_eq
  intro i hi
  simp only [BitVec.getLsbD_not, BitVec.getLsbD_xor, hi]
  cases p.getLsbD i <;> cases q.getLsbD i <;> cases r.getLsbD i <;> decide
theorem more_xor3 (a b c x : List Int) (ha : a.length = x.length) (hb : b.length = x.length) (hc : c.length = x.length)
    (h : ∀ i : Nat, i < x.length → BitVec.ofInt 32 (x.getD i 0) = BitVec.ofInt 32 (a.getD i 0) ^^^ BitVec.ofInt 32 (b.getD i 0) ^^^ BitVec.ofInt 32 (c.getD i 0)) :
    more 0 x = (((~~~ mrun (~~~ (BitVec.ofInt 32 0)) a) ^^^ (~~~ mrun (~~~ (BitVec.ofInt 32 0)) b) ^^^ (~~~ mrun (~~~ (BitVec.ofInt 32 0)) c)).toNat : Int) := by
  unfold more
  rw [← not_xor3, ← mrun_xor3 _ _ _ a b c x ha hb hc h]
  have : (~~~ (BitVec.ofInt 32 0)) ^^^ (~~~ (BitVec.ofInt 32 0)) ^^^ (~~~ (BitVec.ofInt 32 0)) = (~~~ (BitVec.ofInt 32 0)) := by decide
  rw [this]
end Go.Proofs.Ytjkgafijifkfcaa.Crc
