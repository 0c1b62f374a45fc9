/- The law CrcSums comes to true for every slice of bytes and every two numbers. Conditions: the slice reads as bytes. -/
import Derived.Test.YtjkgafijifkfcaaCrcRef
import Derived.Deep.RegionHeld3
namespace Go.Proofs.Ytjkgafijifkfcaa
open Go.RowKit Go.Proofs.YtjkgafijifkfcaaW.PrintWords
set_option linter.unusedVariables false
set_option linter.unusedSimpArgs false

theorem Bytes_take {l : List Int} (h : Crc.Bytes l) (n : Nat) : Crc.Bytes (l.take n) := fun x hx => h x (List.mem_of_mem_take hx)
theorem Bytes_drop {l : List Int} (h : Crc.Bytes l) (n : Nat) : Crc.Bytes (l.drop n) := fun x hx => h x (List.mem_of_mem_drop hx)

theorem sumN (A : Option Addr) (c n : Nat) (l : List Int) (w : World) (hr : Kd.C (Kd.int .u8) w A n l) (hb : Crc.Bytes l) :
    Calls Try.prog 17 #[.slice A n c] w fun e w' => e = .returned (.int .i64 (Crc.more 0 l)) ∧ Below w.heap.size w w' := by
  obtain rfl := (C_cells hr).1
  exact crc_Sum_calls A c l w hr hb
theorem moreN (s : Int) (A : Option Addr) (c n : Nat) (l : List Int) (w : World) (hr : Kd.C (Kd.int .u8) w A n l) (hb : Crc.Bytes l) :
    Calls Try.prog 18 #[.int .i64 s, .slice A n c] w fun e w' => e = .returned (.int .i64 (Crc.more s l)) ∧ Below w.heap.size w w' := by
  obtain rfl := (C_cells hr).1
  exact crc_More_calls s A c l w hr hb
theorem C_takeN {w : World} {A : Option Addr} {n : Nat} {l : List Int} (h : Kd.C (Kd.int .u8) w A n l) (m : Nat) (hm : m ≤ n) : Kd.C (Kd.int .u8) w A m (l.take m) := by
  obtain ⟨h1, h2, h3⟩ := C_cells h
  subst h1
  have := C_take h m
  rwa [show (l.take m).length = m from by simp; omega] at this
/-- an end of a slice reads -/
theorem C_dropN {w : World} {A : Option Addr} {n : Nat} {l : List Int} (h : Kd.C (Kd.int .u8) w A n l) (m : Nat) (hm : m ≤ n) : Kd.C (Kd.int .u8) w (Option.map (fun x => x.add m) A) (n - m) (l.drop m) := by
  obtain ⟨h1, h2, h3⟩ := C_cells h
  subst h1
  refine C_bytes (by simp) (by omega) fun h0 => ?_
  obtain ⟨ad, e, hc⟩ := h3 (by omega)
  cases e
  refine ⟨_, rfl, fun j hj => ?_⟩
  rw [Addr.add_add, hc (m + j) (by omega)]
  simp [List.getD_eq_getElem?_getD, List.getElem?_drop]
theorem C_zero {w : World} {A : Option Addr} : Kd.C (Kd.int .u8) w A 0 [] := C_bytes rfl (by omega) fun h => absurd h (by omega)
theorem below_step {w W W' : World} (h : Below w.heap.size w W) (h' : Below W.heap.size W W') : Below w.heap.size w W' := h.trans (h'.mono h.size)

theorem neg_mod {a n : Int} (h : a < 0) (hn : 0 ≤ n) : ∃ k : Nat, -((a + 1).tmod (n + 1)) = (k : Int) ∧ (k : Int) ≤ n := by
  have h1 : -((a + 1).tmod (n + 1)) = (-(a + 1)).tmod (n + 1) := (Int.neg_tmod _ _).symm
  have h2 : (-(a + 1)).tmod (n + 1) = (-(a + 1)) % (n + 1) := Int.tmod_eq_emod_of_nonneg (by omega)
  have h3 := Int.emod_nonneg (-(a + 1)) (b := n + 1) (by omega)
  have h4 := Int.emod_lt_of_pos (-(a + 1)) (b := n + 1) (by omega)
  exact ⟨((-(a + 1)) % (n + 1)).toNat, by rw [h1, h2]; omega, by omega⟩
theorem pos_mod {a n : Int} (hn : 0 ≤ n) : ∃ k : Nat, a % (n + 1) = (k : Int) ∧ (k : Int) ≤ n := by
  have h3 := Int.emod_nonneg a (b := n + 1) (by omega)
  have h4 := Int.emod_lt_of_pos a (b := n + 1) (by omega)
  exact ⟨(a % (n + 1)).toNat, by omega, by omega⟩
set_option maxHeartbeats 4000000 in
theorem sums_any (w : World) (A : Option Addr) (c : Nat) (l : List Int) (hr : Kd.C (Kd.int .u8) w A l.length l) (hc : l.length ≤ c) (hb : Crc.Bytes l) (at_ : Int) (h0 : -9223372036854775808 ≤ at_) (h1 : at_ ≤ 9223372036854775807) (sum : Int) (_ : -9223372036854775808 ≤ sum) (_ : sum ≤ 9223372036854775807) :
    Calls Try.prog 3 #[.slice A l.length c, .int .i64 at_, .int .i64 sum] w fun e w' => e = .returned (.bool true) ∧ Below w.heap.size w w' := by
  have hlen : l.length ≤ 9223372036854775807 := hr.2.1
  generalize hL : l.take 200 = L
  have hLn : L.length ≤ 200 := by rw [← hL]; simp; omega
  have hLc : L.length ≤ c := by rw [← hL]; simp; omega
  have HL : Aside0 (Kd.C (Kd.int .u8) w A L.length L) := ⟨by rw [← hL]; exact C_take hr 200⟩
  have HB : Aside0 (Crc.Bytes L) := ⟨by rw [← hL]; exact Bytes_take hb 200⟩
  have HF := Aside0.mk (few_calls A c l w hc hlen)
  rw [hL] at HF
  clear hr hb hL
  have HZ : Aside0 (Crc.Bytes []) := ⟨by intro x hx; simp at hx⟩
  by_cases hneg : at_ < 0
  all_goals
    go_enter Try.func3, Try.ntmps3
    go_wp2_with (first
      | (go_at_call 15; (with_reducible refine HF.out.mono ?_); rintro e w1 ⟨rfl, rfl⟩)
      | (go_at_call 16; (with_reducible refine (ref_Sum_calls A c L _ HL.out HB.out).mono ?_); rintro e w1 ⟨rfl, rfl⟩))
    obtain ⟨k, hk, hkl0⟩ := (by first | exact neg_mod hneg (n := (L.length : Int)) (by omega) | exact pos_mod (a := at_) (n := (L.length : Int)) (by omega) : ∃ k : Nat, _ = (k : Int) ∧ (k : Int) ≤ (L.length : Int))
    have hkl : k ≤ L.length := by omega
    clear hkl0
    rw [hk]
    clear hk
    have HM := Aside0.mk (Crc.more_more 0 (L.take k) (L.drop k))
    rw [List.take_append_drop] at HM
    generalize hT : L.take k = T at HM
    generalize hD : L.drop k = D at HM
    have HT : Aside0 (∀ W, Below w.heap.size w W → Kd.C (Kd.int .u8) W A k T) := ⟨fun W h => by rw [← hT]; exact C_takeN (Kd.C_below HL.out h) k hkl⟩
    have HD : Aside0 (∀ W, Below w.heap.size w W → Kd.C (Kd.int .u8) W (Option.map (fun x => x.add k) A) (L.length - k) D) := ⟨fun W h => by rw [← hD]; exact C_dropN (Kd.C_below HL.out h) k hkl⟩
    have HTB : Aside0 (Crc.Bytes T) := ⟨by rw [← hT]; exact Bytes_take HB.out _⟩
    have HDB : Aside0 (Crc.Bytes D) := ⟨by rw [← hD]; exact Bytes_drop HB.out _⟩
    have HD0 : Aside0 (k = c → D = []) := ⟨fun h => by rw [← hD]; exact List.drop_eq_nil_of_le (by omega)⟩
    have HD1 : Aside0 (k = L.length → T = L) := ⟨fun h => by rw [← hT, h, List.take_length]⟩
    clear hT hD
    have hk0 : (0 : Int) ≤ (k : Int) := by omega
    have hk1 : (k : Int) ≤ (L.length : Int) := by omega
    have hk2 : (k : Int) ≤ (c : Int) := by omega
    have hk3 : (L.length : Int) ≤ (c : Int) := by omega
    have e1 : (Crc.more 0 L == Crc.more 0 L) = true := beq_self_eq_true _
    have e2 : (Crc.more (Crc.more 0 T) D == Crc.more 0 L) = true := by rw [HM.out]; exact beq_self_eq_true _
    have e3 : (Crc.more sum L == Crc.more sum L) = true := beq_self_eq_true _
    by_cases hkc : c = k
    · have hkL : L.length = k := by omega
      have hD0 : D = [] := HD0.out hkc.symm
      have hT0 : L = T := (HD1.out (by omega)).symm
      subst hD0
      subst hT0
      subst hkc
      subst hkL
      clear HD0 HD1 HD HT HTB HDB
      go_region_held3 (fun W => Below w.heap.size w W) (first | exact Below.refl _ _ | assumption | exact below_step (by assumption) (by assumption) | exact Below.drew (Below.refl _ _) | go_keep)
        (first
        | (go_at_call 17; (with_reducible refine (sumN A L.length L.length L _ (Kd.C_below HL.out (by assumption)) HB.out).mono ?_); rintro e w1 ⟨rfl, hb1⟩)
        | (go_at_call 18; (with_reducible refine (moreN _ _ _ 0 [] _ C_zero HZ.out).mono ?_); rintro e w1 ⟨rfl, hb1⟩)
        | (go_at_call 18; (with_reducible refine (moreN sum A L.length L.length L _ (Kd.C_below HL.out (by assumption)) HB.out).mono ?_); rintro e w1 ⟨rfl, hb1⟩)
        | (go_at_call 19; (with_reducible refine (ref_More_calls sum A L.length L _ (Kd.C_below HL.out (by assumption)) HB.out).mono ?_); rintro e w1 ⟨rfl, rfl⟩)
        | (go_at_call 20; (with_reducible refine (lives_calls _).mono ?_); rintro e w1 ⟨rfl, hb1⟩))
      go_wp2
      go_ret
      exact ⟨rfl, by assumption⟩
    · go_region_held3 (fun W => Below w.heap.size w W) (first | exact Below.refl _ _ | assumption | exact below_step (by assumption) (by assumption) | exact Below.drew (Below.refl _ _) | go_keep)
        (first
        | (go_at_call 17; (with_reducible refine (sumN A c L.length L _ (Kd.C_below HL.out (by assumption)) HB.out).mono ?_); rintro e w1 ⟨rfl, hb1⟩)
        | (go_at_call 17; (with_reducible refine (sumN A c k T _ (HT.out _ (by assumption)) HTB.out).mono ?_); rintro e w1 ⟨rfl, hb1⟩)
        | (go_at_call 18; (with_reducible refine (moreN _ _ _ (L.length - k) D _ (HD.out _ (by assumption)) HDB.out).mono ?_); rintro e w1 ⟨rfl, hb1⟩)
        | (go_at_call 18; (with_reducible refine (moreN sum A c L.length L _ (Kd.C_below HL.out (by assumption)) HB.out).mono ?_); rintro e w1 ⟨rfl, hb1⟩)
        | (go_at_call 19; (with_reducible refine (ref_More_calls sum A c L _ (Kd.C_below HL.out (by assumption)) HB.out).mono ?_); rintro e w1 ⟨rfl, rfl⟩)
        | (go_at_call 20; (with_reducible refine (lives_calls _).mono ?_); rintro e w1 ⟨rfl, hb1⟩))
      go_wp2
      go_ret
      exact ⟨rfl, by assumption⟩
end Go.Proofs.Ytjkgafijifkfcaa
