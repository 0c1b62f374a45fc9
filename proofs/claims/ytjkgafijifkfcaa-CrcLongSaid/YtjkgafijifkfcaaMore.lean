/- The law CrcMore comes to true for every slice of slices of bytes. Conditions: the slices read as bytes. -/
import Derived.Test.YtjkgafijifkfcaaAppend
import Derived.Test.YtjkgafijifkfcaaSums
import Derived.Deep.RegionHeld3
import Derived.Test.YtjkgafijifkfcaaReads
import Derived.Test.YtjkgafijifkfcaaOpen
namespace Go.Proofs.Ytjkgafijifkfcaa
open Go.RowKit Go.Proofs.YtjkgafijifkfcaaW.PrintWords
set_option linter.unusedVariables false
set_option linter.unusedSimpArgs false

def rdL {α : Type} (xs : List (List α)) (i : Nat) : List α := xs.getD i []
theorem at_slice {α : Type} {d : Kd α} {e : Nat} {w : World} {A : Option Addr} {n : Nat} {xs : List (List α)} (h : Kd.C (Kd.slice e d) w A n xs) (i : Nat) (h1 : i < n) : ∃ ad A0 c0, A = some ad ∧ w.cell? (ad.add i) = some (.slice A0 (rdL xs i).length c0) ∧ (rdL xs i).length ≤ c0 ∧ d.C w A0 (rdL xs i).length (rdL xs i) := by
  obtain ⟨ad, c, e, _, hK, hc0⟩ := Kd.C_get h ([] : List α) (i : Int) (by omega) (by omega)
  have hc : ∀ j u, c[j]? = some u → w.cell? (ad.add ((i : Int).toNat * 1 + j)) = some u := hc0
  obtain ⟨A0, c0, rfl, l0, g0⟩ := hK
  exact ⟨ad, A0, c0, e, by have hq := hc 0 _ rfl; rwa [Nat.mul_one, Nat.add_zero, Int.toNat_natCast] at hq, l0, g0⟩

theorem take_cut (q : List Int) (n : Nat) : q.take (min n q.length) = q.take n := by
  rcases Nat.le_total n q.length with h | h
  · rw [Nat.min_eq_left h]
  · rw [Nat.min_eq_right h, List.take_of_length_le h, List.take_of_length_le (Nat.le_refl _)]
/-- what has been gathered of the first k pieces -/
def gath (L : List (List Int)) (k : Nat) : List Int := ((L.take k).map (·.take 40)).flatten
theorem gath_succ (L : List (List Int)) (k : Nat) (h : k < L.length) : gath L (k + 1) = gath L k ++ (rdL L k).take 40 := by
  unfold gath rdL
  rw [List.take_succ_eq_append_getElem h, List.map_append, List.flatten_append]
  simp [List.getD_eq_getElem?_getD, h]
theorem gath_length (L : List (List Int)) (k : Nat) : (gath L k).length ≤ 40 * k := by
  induction k with
  | zero => simp [gath]
  | succ k ih =>
    by_cases h : k < L.length
    · rw [gath_succ L k h]; simp; omega
    · have : gath L (k + 1) = gath L k := by unfold gath; rw [List.take_of_length_le (by omega), List.take_of_length_le (by omega)]
      rw [this]; omega
theorem gath_bytes (L : List (List Int)) (h : ∀ l ∈ L, Crc.Bytes l) (k : Nat) : Crc.Bytes (gath L k) := by
  intro x hx
  simp only [gath, List.mem_flatten, List.mem_map] at hx
  obtain ⟨_, ⟨l, hl, rfl⟩, hx⟩ := hx
  exact h l (List.mem_of_mem_take hl) x (List.mem_of_mem_take hx)
theorem rdL_bytes (L : List (List Int)) (h : ∀ l ∈ L, Crc.Bytes l) (k : Nat) : Crc.Bytes (rdL L k) := by
  unfold rdL
  rw [List.getD_eq_getElem?_getD]
  cases e : L[k]? with
  | none => intro x hx; simp at hx
  | some l => exact h l (List.mem_of_getElem? e)

set_option maxHeartbeats 4000000 in
theorem more_any (w : World) (A : Option Addr) (c : Nat) (L : List (List Int)) (hr : Kd.C (Kd.slice 5 (Kd.int .u8)) w A L.length L) (hc : L.length ≤ c) (hb : ∀ l ∈ L, Crc.Bytes l) :
    Calls Try.prog 5 #[.slice A L.length c] w fun e w' => e = .returned (.bool true) ∧ Below w.heap.size w w' := by
  have hlen : L.length ≤ 9223372036854775807 := hr.2.1
  have HR := Aside0.mk hr
  have HB := Aside0.mk hb
  clear hr hb
  go_enter Try.func5, Try.ntmps5
  go_wp2
  go_loopw [3, 4, 5] (fun v s i wr => ∃ k : Nat, k ≤ 6 ∧ k ≤ L.length ∧ i = .int .i64 k ∧ s = .int .i64 (Crc.more 0 (gath L k)) ∧ Kd.R (Kd.int .u8) 5 wr w.heap.size (fun _ => True) v (gath L k) ∧ Below w.heap.size w wr) (fun _ _ i _ => L.length - (intOf i).toNat)
  case atStart => exact ⟨0, by omega, by omega, rfl, by rw [show gath L 0 = [] from rfl, lives_b], Kd.R_nil _ _ _ _ _, Below.refl _ _⟩
  case round =>
    obtain ⟨k, hk6, hkl, rfl, rfl, hown, hbel⟩ := hrel
    by_cases hlt : k < L.length ∧ k < 6
    · obtain ⟨h1, h2⟩ := hlt
      obtain ⟨ad, A0, c0, ea, hcell, hl0, hC0⟩ := at_slice HR.out k h1
      cases ea
      replace hcell := pw_cell_below hbel hcell
      have HS := Aside0.mk (gath_succ L k h1)
      have hgl := gath_length L k
      have HO := Aside0.mk hown
      have HW := Aside0.mk hbel
      have HM := Aside0.mk (Crc.more_more 0 (gath L k) ((rdL L k).take 40))
      have HQ := Aside0.mk (Bytes_take (rdL_bytes L HB.out k) 40)
      clear hown hbel
      generalize rdL L k = q at *
      have hsel : ∃ m : Nat, m ≤ 40 ∧ m ≤ q.length ∧ (q.take 40).length = m ∧ (40 < q.length → m = 40) ∧ (¬ 40 < q.length → m = q.length) := ⟨min 40 q.length, by omega, by omega, by simp, by omega, by omega⟩
      obtain ⟨m, hm1, hm2, hm3, hm4, hm5⟩ := hsel
      have HC0 := Aside0.mk (C_takeN hC0 m hm2)
      rw [show q.take m = q.take 40 from by rw [← hm3, List.length_take]; exact take_cut q 40] at HC0
      clear hC0
      generalize q.take 40 = p at *
      have HP := Aside0.mk hm3
      clear hm3
      obtain ⟨wo, rfl⟩ : ∃ wo : World, wo = wr := ⟨_, rfl⟩
      by_cases h40 : 40 < q.length
      · obtain rfl := hm4 h40
        clear hm4 hm5
        go_wp2_with (first
          | (refine appN w.heap.size rfl (.tmp 26) (.tmp 27) rfl _ (gath L k) p A0 40 c0 rfl rfl HO.out (Kd.C_below HC0.out HW.out) HW.out HW.out.size (by omega) ?_; intro v1 w1 ho1 hb1 hg1)
          | (go_at_call 18; (with_reducible refine (moreN (Crc.more 0 (gath L k)) A0 c0 40 p _ (Kd.C_below HC0.out (by assumption)) HQ.out).mono ?_); rintro e w2 ⟨rfl, hb2⟩))
        go_roundw
        case rel => exact ⟨k + 1, by omega, by omega, by go_num, by rw [HS.out, HM.out], by rw [HS.out]; exact Kd.R_below (by assumption) (by assumption), below_step (by assumption) (by assumption)⟩
        case measure => simp [intOf]; omega
      · obtain rfl := hm5 h40
        clear hm4 hm5
        go_wp2_with (first
          | (refine appN w.heap.size rfl (.tmp 26) (.tmp 27) rfl _ (gath L k) p A0 q.length c0 rfl rfl HO.out (Kd.C_below HC0.out HW.out) HW.out HW.out.size (by omega) ?_; intro v1 w1 ho1 hb1 hg1)
          | (go_at_call 18; (with_reducible refine (moreN (Crc.more 0 (gath L k)) A0 c0 q.length p _ (Kd.C_below HC0.out (by assumption)) HQ.out).mono ?_); rintro e w2 ⟨rfl, hb2⟩))
        go_roundw
        case rel => exact ⟨k + 1, by omega, by omega, by go_num, by rw [HS.out, HM.out], by rw [HS.out]; exact Kd.R_below (by assumption) (by assumption), below_step (by assumption) (by assumption)⟩
        case measure => simp [intOf]; omega
    · obtain ⟨AX, cX, rfl, hcX, hCX⟩ := Kd.R_reads hown
      have hX : Aside0 (∀ W, Below wr.heap.size wr W → Kd.C (Kd.int .u8) W AX (gath L k).length (gath L k)) := ⟨fun W h => Kd.C_below hCX h⟩
      have hXB : Aside0 (Crc.Bytes (gath L k)) := ⟨gath_bytes L HB.out k⟩
      have hrange := Crc.more_range 0 (gath L k)
      have e1 : (Crc.more 0 (gath L k) == Crc.more 0 (gath L k)) = true := beq_self_eq_true _
      have r1 : (0 : Int) ≤ Crc.more 0 (gath L k) := hrange.1
      have r2 : Crc.more 0 (gath L k) ≤ (4294967295 : Int) := by omega
      have HBel := Aside0.mk hbel
      clear hCX hown hbel hrange
      generalize gath L k = X at *
      have hK : k = L.length ∨ (k < L.length ∧ k = 6) := by omega
      rcases hK with h6 | ⟨h6, h7⟩
      · subst h6
        go_wp2_with (first
          | (go_at_call 17; (with_reducible refine (sumN AX cX X.length X _ (hX.out _ (Below.refl _ _)) hXB.out).mono ?_); rintro e w1 ⟨rfl, hb1⟩)
          | (go_at_call 20; (with_reducible refine (lives_calls _).mono ?_); rintro e w2 ⟨rfl, hb2⟩))
        go_ret
        exact ⟨rfl, HBel.out.trans ((below_step hb1 hb2).mono HBel.out.size)⟩
      · subst h7
        go_wp2_with (first
          | (go_at_call 17; (with_reducible refine (sumN AX cX X.length X _ (hX.out _ (Below.refl _ _)) hXB.out).mono ?_); rintro e w1 ⟨rfl, hb1⟩)
          | (go_at_call 20; (with_reducible refine (lives_calls _).mono ?_); rintro e w2 ⟨rfl, hb2⟩))
        go_ret
        exact ⟨rfl, HBel.out.trans ((below_step hb1 hb2).mono HBel.out.size)⟩

theorem reads_rows : Reads Try.prog 29 (Kd.slice 22 (Kd.slice 5 (Kd.int .u8))) (fun L => (∀ l ∈ L, (∀ x ∈ l, (Lit.int .u8 x).wf = true) ∧ l.length * 1 ≤ reachBytes) ∧ L.length * 24 ≤ reachBytes) :=
  Reads.slice Try.underlying29 (by kernel_rfl) (by kernel_rfl) (Reads.slice Try.underlying22 (by kernel_rfl) (by kernel_rfl) (Reads.int Try.underlying5 (by kernel_rfl)))
theorem more_law (w : World) (A : Option Addr) (c : Nat) (L : List (List Int)) (hr : Kd.C (Kd.slice 5 (Kd.int .u8)) w A L.length L) (hc : L.length ≤ c)
    (ho : (∀ l ∈ L, (∀ x ∈ l, (Lit.int .u8 x).wf = true) ∧ l.length * 1 ≤ reachBytes) ∧ L.length * 24 ≤ reachBytes) :
    Calls Try.prog 5 #[.slice A L.length c] w fun e w' => e = .returned (.bool true) ∧ Below w.heap.size w w' :=
  more_any w A c L hr hc fun l hl x hx => Open.u8_bounds ((ho.1 l hl).1 x hx)
end Go.Proofs.Ytjkgafijifkfcaa
