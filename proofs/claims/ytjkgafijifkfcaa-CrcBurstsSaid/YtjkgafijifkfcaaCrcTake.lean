/- crc.Take: what is taken, or refused. Conditions: the slice reads as bytes; at most 100000 of them. -/
import Derived.Test.YtjkgafijifkfcaaCrcPut
import Derived.WideShapes
namespace Go.Proofs.Ytjkgafijifkfcaa
open Go.RowKit Go.Proofs.YtjkgafijifkfcaaW.PrintWords
set_option linter.unusedVariables false
set_option linter.unusedSimpArgs false

def own (l : List Int) : List Int := l.take (l.length - 4)
def goodB (l : List Int) : Bool := decide (own l ++ le4 (Crc.more 0 (own l)) = l)
/-- what Take answers of four bytes or more -/
def Took (w : World) (l : List Int) (e : Ending) (w' : World) : Prop :=
  ∃ v, e = .returned (.tuple #[v, .int .i64 (if goodB l then 0 else 3)]) ∧ Kd.R (Kd.int .u8) 5 w' w.heap.size (fun _ => True) v (if goodB l then own l else []) ∧ Below w.heap.size w w'

theorem conv_bytes {W : World} {A : Option Addr} {n c : Nat} {l : List Int} (h : Kd.C (Kd.int .u8) W A n l) : (convert 22 9 (.slice A n c)).run Try.prog W = .ok (.string (strOfNums l)) W :=
  Kd.C_string Try.underlying22 Try.underlying5 Try.underlying9 h
theorem Took.yes {w w' : World} {l : List Int} (hg : goodB l = true) (v : Value) (hR : Kd.R (Kd.int .u8) 5 w' w.heap.size (fun _ => True) v (own l)) (hb : Below w.heap.size w w') : Took w l (.returned (.tuple #[v, .int .i64 0])) w' :=
  ⟨v, by rw [hg]; rfl, by rw [hg]; exact hR, hb⟩
theorem Took.no {w w' : World} {l : List Int} (hg : goodB l = false) (hb : Below w.heap.size w w') : Took w l (.returned (.tuple #[.slice none 0 0, .int .i64 3])) w' :=
  ⟨_, by rw [hg]; rfl, by rw [hg]; exact Kd.R_nil _ _ _ _ _, hb⟩
set_option maxHeartbeats 1000000 in
theorem take_short (A : Option Addr) (c : Nat) (l : List Int) (w : World) (h : l.length < 4) :
    Calls Try.prog 33 #[.slice A l.length c] w fun e w' => e = .returned (.tuple #[.slice none 0 0, .int .i64 4]) ∧ w = w' := by
  have h1 : (l.length : Int) < 4 := by omega
  go_enter Try.func33, Try.ntmps33
  go_wp2
  go_ret2
  exact ⟨rfl, rfl⟩

theorem strOfNums_inj {xs ys : List Int} (hx : Crc.Bytes xs) (hy : Crc.Bytes ys) (h : strOfNums xs = strOfNums ys) : xs = ys := by
  have h1 : (xs.map fun n => UInt8.ofNat n.toNat) = ys.map fun n => UInt8.ofNat n.toNat := by
    have := congrArg (fun s : ByteArray => s.data.toList) h
    simpa [strOfNums] using this
  clear h
  induction xs generalizing ys with
  | nil => cases ys with
    | nil => rfl
    | cons y ys => simp at h1
  | cons x xs ih => cases ys with
    | nil => simp at h1
    | cons y ys =>
      simp only [List.map_cons, List.cons.injEq] at h1
      have e1 := hx x (by simp)
      have e2 := hy y (by simp)
      have e3 := congrArg UInt8.toNat h1.1
      simp only [UInt8.toNat_ofNat'] at e3
      have e4 : x = y := by omega
      rw [e4, ih (fun z hz => hx z (by simp [hz])) (fun z hz => hy z (by simp [hz])) h1.2]
theorem str_beq {xs ys : List Int} (hx : Crc.Bytes xs) (hy : Crc.Bytes ys) : ((strOfNums xs).toList == (strOfNums ys).toList) = decide (xs = ys) := by
  by_cases e : xs = ys
  · subst e
    simp
  · have e2 : ¬ (strOfNums xs).toList = (strOfNums ys).toList := fun h => e (strOfNums_inj hx hy (Go.WideShapes.bytes_inj (by rwa [ByteArray.toList_eq, ByteArray.toList_eq] at h)))
    simp [e, e2]
theorem le4_bytes {s : Int} (h : 0 ≤ s ∧ s < 4294967296) : Crc.Bytes (le4 s) := by
  intro x hx
  simp only [le4, List.mem_cons, List.not_mem_nil, or_false] at hx
  omega
theorem append_bytes {a b : List Int} (ha : Crc.Bytes a) (hb : Crc.Bytes b) : Crc.Bytes (a ++ b) := fun x hx => (List.mem_append.1 hx).elim (ha x) (hb x)
theorem put_nil (B : Option Addr) (cb n : Nat) (b : List Int) (w : World) (hrb : Kd.C (Kd.int .u8) w B n b) (hcb : n ≤ cb) (hbb : Crc.Bytes b) (hl : n ≤ 1000000) :
    Calls Try.prog 32 #[.slice none 0 0, .slice B n cb] w (Fresh w (b ++ le4 (Crc.more 0 b))) := by
  obtain rfl := (C_cells hrb).1
  have := put_calls none 0 [] B cb b w (Kd.C_nil _ _) (by simp) hrb hcb hbb (by simp; omega)
  simpa using this

set_option maxHeartbeats 4000000 in
theorem take_long (A : Option Addr) (c : Nat) (l : List Int) (w : World) (hr : Kd.C (Kd.int .u8) w A l.length l) (hc : l.length ≤ c) (hb : Crc.Bytes l) (h : 4 ≤ l.length) (hl : l.length ≤ 100000) :
    Calls Try.prog 33 #[.slice A l.length c] w (Took w l) := by
  obtain ⟨m, hm⟩ : ∃ m, l.length = m + 4 := ⟨l.length - 4, by omega⟩
  have ho : own l = l.take m := by unfold own; rw [hm]; rfl
  have HT := Aside0.mk (C_takeN hr m (by omega))
  have HR := Aside0.mk hr
  have HB := Aside0.mk (Bytes_take hb m)
  have HLB := Aside0.mk hb
  have HOWN := Aside0.mk ho
  have hmc : (m : Int) ≤ (c : Int) := by omega
  have hm0 : (0 : Int) ≤ (m : Int) := by omega
  have hmb : m ≤ 99996 := by omega
  have hpl : (l.take m).length = m := by simp; omega
  rw [hm] at HR ⊢
  clear hr hb h hl hm ho
  generalize l.take m = p at *
  go_enter Try.func33, Try.ntmps33
  go_wp2_with (go_at_call 40; (with_reducible refine (clone_calls A m c p _ HT.out (by omega)).mono ?_); rintro e w1 ⟨v1, rfl, ho1, hb1⟩)
  obtain ⟨A1, c1, rfl, hc1, hC1⟩ := Kd.R_reads ho1
  rw [hpl] at hc1 hC1 ho1
  rw [hpl]
  have HO1 := Aside0.mk ho1
  have HC1 := Aside0.mk hC1
  have HRl : Aside0 (∀ W, Below w1.heap.size w1 W → (convert 22 9 (.slice A (m + 4) c)).run Try.prog W = .ok (.string (strOfNums l)) W) := ⟨fun W h => conv_bytes (Kd.C_below HR.out (below_step hb1 h))⟩
  have HBel := Aside0.mk hb1
  have hkeep : Aside0 (∀ W W', Below w1.heap.size w1 W → Below W.heap.size W W' → Below w1.heap.size w1 W' ∧ (convert 22 9 (.slice A (m + 4) c)).run Try.prog W' = .ok (.string (strOfNums l)) W') := ⟨fun W W' h h' => ⟨below_step h h', HRl.out _ (below_step h h')⟩⟩
  clear ho1 hC1 hb1
  have HLen : Aside0 ((p ++ le4 (Crc.more 0 p)).length = m + 4) := ⟨by simp [le4]; omega⟩
  have hgb : ((strOfNums (p ++ le4 (Crc.more 0 p))).toList == (strOfNums l).toList) = goodB l := by
    rw [str_beq (append_bytes HB.out (le4_bytes (Crc.more_range 0 p))) HLB.out]
    unfold goodB
    rw [HOWN.out]
  cases hg : goodB l with
  | true =>
    rw [hg] at hgb
    replace hg := Aside0.mk hg
    have hcl0 := HRl.out w1.drew (Below.drew (Below.refl _ _))
    go_region_with (first
      | (go_at_call 32; (with_reducible refine (put_nil A1 c1 m p _ (Kd.C_below HC1.out (Below.drew (Below.refl _ _))) hc1 HB.out (by omega)).mono ?_); rintro e w2 ⟨v2, rfl, ho2, hb2⟩; obtain ⟨A2, c2, rfl, hc2, hC2⟩ := Kd.R_reads ho2; rw [HLen.out] at hC2 ⊢; have hcv := conv_bytes (c := c2) hC2; have hcl1 := HRl.out _ (below_step (Below.drew (Below.refl _ _)) hb2); have HO2 := Aside0.mk (below_step (Below.drew (Below.refl _ _)) hb2); clear ho2 hC2 hb2))
    all_goals
      go_wp2
      go_ret2
      exact Took.yes hg.out _ (by rw [HOWN.out]; exact Kd.R_below HO1.out (by first | exact HO2.out | assumption)) (below_step HBel.out (by first | exact HO2.out | assumption))
  | false =>
    rw [hg] at hgb
    replace hg := Aside0.mk hg
    have hcl0 := HRl.out w1.drew (Below.drew (Below.refl _ _))
    go_region_with (first
      | (go_at_call 32; (with_reducible refine (put_nil A1 c1 m p _ (Kd.C_below HC1.out (Below.drew (Below.refl _ _))) hc1 HB.out (by omega)).mono ?_); rintro e w2 ⟨v2, rfl, ho2, hb2⟩; obtain ⟨A2, c2, rfl, hc2, hC2⟩ := Kd.R_reads ho2; rw [HLen.out] at hC2 ⊢; have hcv := conv_bytes (c := c2) hC2; have hcl1 := HRl.out _ (below_step (Below.drew (Below.refl _ _)) hb2); have HO2 := Aside0.mk (below_step (Below.drew (Below.refl _ _)) hb2); clear ho2 hC2 hb2))
    all_goals
      go_wp2
      go_ret2
      exact Took.no hg.out (below_step HBel.out (by first | exact HO2.out | assumption))
end Go.Proofs.Ytjkgafijifkfcaa
