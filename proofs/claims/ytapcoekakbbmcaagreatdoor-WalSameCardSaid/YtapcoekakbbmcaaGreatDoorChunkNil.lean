/- chunk: the point of nothing as bytes, and read again. Conditions: none. -/
import Derived.Test.YtapcoekakbbmcaaGreatDoorLay0
import Derived.BigQuiet
import Derived.Deep.QuietTactic
namespace Go.Proofs.YtapcoekakbbmcaaGreatDoor
open Go.RowKit Go.Proofs.YtapcoekakbbmcaaGreatDoorW.PrintWords
set_option linter.unusedVariables false
set_option linter.unusedSimpArgs false
theorem right_nil (w : World) : Calls Tryz.prog 125 #[.slice none 0 0] w fun e w' => e = .returned (.bool true) ∧ w = w' := by
  go_enter Tryz.func125, Tryz.ntmps125
  go_wp2
  refine wp_loop_rounds 1 ?_
  rw [rounds_succ]
  go_wp2
  go_ret
  exact ⟨rfl, rfl⟩
set_option maxRecDepth 100000 in
theorem may_nil (w : World) : Calls Tryz.prog 84 #[.agg #[.int .i64 0, .int .i64 0, .int .i64 0, .slice none 0 0]] w fun e w' => e = .returned (.bool true) ∧ Below w.heap.size w w' := by
  have hmin : ∀ (ats : Array TypeId) (ty : TypeId), Builtin.min_ ats ty #[.int .i64 0, .int .i64 0, .int .i64 0] = pure (.int .i64 0) := fun ats ty => by rfl
  go_enter Tryz.func84, Tryz.ntmps84
  go_wp2_with (go_at_call 125; (with_reducible refine (right_nil _).mono ?_); rintro e w1 ⟨rfl, rfl⟩)
  go_ret
  exact ⟨rfl, (Below.refl _ _).alloc (Nat.le_refl _) _⟩
def zeros (j : Nat) : List Int := List.replicate j 0
def CwTell (w : World) (x : Ending) (w' : World) : Prop := ∃ v, x = .returned (.tuple #[v, .int .i64 0]) ∧ kByt.R 5 w' w.heap.size (fun _ => True) v (zeros 4) ∧ Below w.heap.size w w'
theorem idx4_0 (W : World) : (Instr.index 147 (.agg #[.int .i64 0, .int .i64 0, .int .i64 0, .int .i64 0]) (.int .i64 0)).run Tryz.prog W = .ok (.int .i64 0) W := by kernel_rfl
theorem idx4_1 (W : World) : (Instr.index 147 (.agg #[.int .i64 0, .int .i64 0, .int .i64 0, .int .i64 0]) (.int .i64 1)).run Tryz.prog W = .ok (.int .i64 0) W := by kernel_rfl
theorem idx4_2 (W : World) : (Instr.index 147 (.agg #[.int .i64 0, .int .i64 0, .int .i64 0, .int .i64 0]) (.int .i64 2)).run Tryz.prog W = .ok (.int .i64 0) W := by kernel_rfl
theorem idx4_3 (W : World) : (Instr.index 147 (.agg #[.int .i64 0, .int .i64 0, .int .i64 0, .int .i64 0]) (.int .i64 3)).run Tryz.prog W = .ok (.int .i64 0) W := by kernel_rfl
theorem idx4 (j : Nat) (hj : j < 4) (W : World) : (Instr.index 147 (.agg #[.int .i64 0, .int .i64 0, .int .i64 0, .int .i64 0]) (.int .i64 (j : Int))).run Tryz.prog W = .ok (.int .i64 0) W := by
  have h : j = 0 ∨ j = 1 ∨ j = 2 ∨ j = 3 := by omega
  rcases h with rfl | rfl | rfl | rfl
  · exact idx4_0 W
  · exact idx4_1 W
  · exact idx4_2 W
  · exact idx4_3 W
theorem zeros_succ (j : Nat) : zeros (j + 1) = zeros j ++ [0] := by unfold zeros; rw [List.replicate_succ']
set_option maxRecDepth 100000 in
set_option maxHeartbeats 2000000 in
theorem write_nil (w : World) : Calls Tryz.prog 50 #[.agg #[.int .i64 0, .int .i64 0, .int .i64 0, .slice none 0 0]] w (CwTell w) := by
  go_enter Tryz.func50, Tryz.ntmps50
  go_upto_block 0 with (go_at_call 84; (with_reducible refine (may_nil _).mono ?_); rintro e w1 ⟨rfl, hb1⟩; have HB1 := Aside0.mk hb1; have kb := (hb1.block w.heap.size (by simp)).trans (heap_alloc_new w (.cells #[.int .i64 0, .int .i64 0, .int .i64 0, .slice none 0 0] 47)); have k0 := cell_of_row w1 _ 0 _ _ _ kb; have k1 := cell_of_row w1 _ 1 _ _ _ kb; have k2 := cell_of_row w1 _ 2 _ _ _ kb; have k3 := cell_of_row w1 _ 3 _ _ _ kb; have HK := Aside0.mk kb; clear kb hb1)
  have hbw : Below w.heap.size w w1 := ((Below.refl _ _).alloc (Nat.le_refl _) _).trans (HB1.out.mono (by simp))
  have HBW := Aside0.mk hbw
  clear hbw
  go_wp2
  go_loopw [4, 23] (fun b i wr => ∃ j : Nat, j ≤ 4 ∧ i = .int .i64 j ∧ kByt.R 5 wr w.heap.size (fun _ => True) b (zeros j) ∧ Below w1.heap.size w1 wr) (fun _ i _ => 4 - (intOf i).toNat)
  case atStart => exact ⟨0, by omega, rfl, Kd.R_nil _ _ _ _ _, Below.refl _ _⟩
  case round =>
    obtain ⟨j, hj, rfl, hR, hbel⟩ := hrel
    obtain ⟨A, c, rfl, hc, hC⟩ := Kd.R_reads hR
    have hlen : (zeros j).length = j := by simp [zeros]
    rw [hlen] at hc hC ⊢
    by_cases hlt : j < 4
    · have hlt' : (j : Int) < 4 := by omega
      have hidx := fun W => idx4 j hlt W
      have HN := Aside0.mk (fun W hW => number_small A j c (zeros j) 0 W hW hc (by omega) (by decide) (by decide))
      have HC := Aside0.mk hC
      have HBel := Aside0.mk hbel
      clear hC hR hbel
      go_wp2_with (go_at_call 51; (with_reducible refine (HN.out _ HC.out).mono ?_); rintro e w2 ⟨v2, rfl, hR2, hb2⟩; rw [← zeros_succ] at hR2)
      go_roundw
      case rel => exact ⟨j + 1, by omega, by go_num, Kd.R_lower hR2 (Nat.le_trans HBW.out.size HBel.out.size), HBel.out.trans (hb2.mono HBel.out.size)⟩
      case measure => simp [intOf]; omega
    · obtain rfl : j = 4 := by omega
      have k3' := pw_cell_below hbel k3
      have HR := Aside0.mk hR
      have HBel := Aside0.mk hbel
      clear hC hR hbel
      go_wp2
      refine wp_loop_rounds 1 ?_
      rw [rounds_succ]
      go_wp2
      go_ret2
      exact ⟨_, rfl, by rw [hlen] at HR; exact HR.out, HBW.out.trans (HBel.out.mono HBW.out.size)⟩
theorem add_blk (ad : Addr) (j : Nat) : (ad.add j).block = ad.block := by cases ad; unfold Addr.add; split <;> rfl
theorem cell_lt {W : World} {ad : Addr} {v : Value} (h : W.cell? ad = some v) : ad.block < W.heap.size := by
  by_cases hlt : ad.block < W.heap.size
  · exact hlt
  · unfold World.cell? at h
    rw [Array.getElem?_eq_none (by omega)] at h
    cases h
/-- a reader at g of so many noughts -/
def ZR (W : World) (g n : Nat) : Prop := ∃ A c, RdBlk W g A n c 0 ∧ kByt.C W A n (zeros n) ∧ (0 < n → ∀ ad, A = some ad → ad.block ≠ g) ∧ n ≤ c ∧ n ≤ 9223372036854775807
theorem ZR.blk {W : World} {g n : Nat} (h : ZR W g n) : ∃ A c, RdBlk W g A n c 0 := by obtain ⟨A, c, h, _⟩ := h; exact ⟨A, c, h⟩
theorem C_far {W : World} {A : Option Addr} {n : Nat} {l : List Int} (h : kByt.C W A n l) (g : Nat) (hA : ∀ ad, A = some ad → ad.block ≠ g) (v : Value) : kByt.C (W.setCell ⟨g, 0, none⟩ v) A n l := by
  obtain ⟨h1, h2, h3⟩ := C_cells h
  refine Kd.C_of_reads (enc := Value.int .u8) (d := (0 : Int)) (h1 := fun _ => rfl) ⟨h1, h2, fun h0 => ?_⟩
  obtain ⟨ad, rfl, h4⟩ := h3 h0
  refine ⟨ad, rfl, fun j hj => ?_⟩
  rw [World.cell?_setCell_other _ _ _ _ (by
    intro e
    have h5 := hA ad rfl
    have : (ad.add j).block = g := by first | (rw [e]) | (rw [← e])
    rw [add_blk] at this
    exact h5 this)]
  exact h4 j hj
theorem znumber {w : World} {g n : Nat} (h : ZR w g (n + 1)) : Calls Tryz.prog 36 #[.pointer (some ⟨g, 0, none⟩)] w fun e w' => e = .returned (.int .i64 0) ∧ ZR w' g n ∧ (∃ v, w' = w.setCell ⟨g, 0, none⟩ v) := by
  obtain ⟨A, c, h1, h2, h3', h4, h5⟩ := h
  have h3 := h3' (by omega)
  have hz : zeros (n + 1) = 0 :: zeros n := rfl
  rw [hz] at h2
  refine (rnumber_zero g A n c (zeros n) w h1 h2 h3 h4 h5).mono ?_
  rintro e w' ⟨rfl, k1, k2⟩
  refine ⟨rfl, ⟨_, _, k1, ?_, ?_, by omega, by omega⟩, _, k2⟩
  · subst k2
    have := tail_C h2 (k := 1) (by omega) h4
    exact C_far this g (fun ad hA => by
      unfold tailA at hA
      split at hA
      · exact h3 ad hA
      · obtain ⟨b, hb, rfl⟩ := Option.map_eq_some_iff.1 hA
        have := h3 b hb
        rw [add_blk]
        exact this) _
  · intro _ ad hA
    unfold tailA at hA
    split at hA
    · exact h3 ad hA
    · obtain ⟨b, hb, rfl⟩ := Option.map_eq_some_iff.1 hA
      rw [add_blk]
      exact h3 b hb
theorem zread {w : World} {A : Option Addr} {n c : Nat} (hC : kByt.C w A n (zeros n)) (hc : n ≤ c) : Calls Tryz.prog 35 #[.slice A n c] w fun e w' => e = .returned (.pointer (some ⟨w.heap.size, 0, none⟩)) ∧ ZR w' w.heap.size n ∧ Below w.heap.size w w' := by
  refine (read_calls A n c w).mono ?_
  rintro e w' ⟨rfl, h1, h2⟩
  refine ⟨rfl, ⟨A, c, h1, Kd.C_below hC h2, fun h0 ad hA => ?_, hc, hC.2.1⟩, h2⟩
  subst hA
  obtain ⟨_, _, h3⟩ := C_cells hC
  obtain ⟨ad', h4, h5⟩ := h3 h0
  cases h4
  have := cell_lt (h5 0 h0)
  rw [add_blk] at this
  omega
theorem zend {w : World} {g : Nat} (h : ZR w g 0) : Calls Tryz.prog 76 #[.pointer (some ⟨g, 0, none⟩)] w fun e w' => e = .returned (.int .i64 0) ∧ w = w' := by
  obtain ⟨A, c, h1, _⟩ := h
  exact end_calls g A c w h1
theorem zerrno {w : World} {g n : Nat} (h : ZR w g n) : Calls Tryz.prog 40 #[.pointer (some ⟨g, 0, none⟩)] w fun e w' => e = .returned (.int .i64 0) ∧ w = w' := by
  obtain ⟨A, c, h1, _⟩ := h
  exact errno_calls g A n c 0 w h1
theorem zleft {w : World} {g n : Nat} (h : ZR w g n) : Calls Tryz.prog 42 #[.pointer (some ⟨g, 0, none⟩)] w fun e w' => e = .returned (.int .i64 n) ∧ w = w' := by
  obtain ⟨A, c, h1, _⟩ := h
  exact left_calls g A n c 0 w h1
theorem ZR.below {W W' : World} {g n : Nat} (h : ZR W g n) (hb : Below W.heap.size W W') : ZR W' g n := by
  obtain ⟨A, c, h1, h2, h3, h4, h5⟩ := h
  exact ⟨A, c, (hb.block g (Array.getElem?_eq_some_iff.1 h1).1).trans h1, Kd.C_below h2 hb, h3, h4, h5⟩
theorem ZR.lt {W : World} {g n : Nat} (h : ZR W g n) : g < W.heap.size := by obtain ⟨A, c, h1, _⟩ := h; exact (Array.getElem?_eq_some_iff.1 h1).1
def PtTell (w : World) (x : Ending) (w' : World) : Prop := x = .returned (.tuple #[.agg #[.int .i64 0, .int .i64 0, .int .i64 0, .slice none 0 0], .int .i64 0]) ∧ Below w.heap.size w w'
set_option maxRecDepth 100000 in
set_option maxHeartbeats 2000000 in
theorem cread_nil {A : Option Addr} {c : Nat} (w : World) (hC : kByt.C w A 4 (zeros 4)) (hc : 4 ≤ c) : Calls Tryz.prog 41 #[.slice A 4 c] w (PtTell w) := by
  have HC := Aside0.mk hC
  clear hC
  go_enter Tryz.func41, Tryz.ntmps41
  go_upto_block 0 with (first
    | (go_at_call 35; (with_reducible refine (zread (Kd.C_below HC.out ((Below.refl _ _).alloc (Nat.le_refl _) _)) hc).mono ?_); rintro e w2 ⟨rfl, h2, hb2⟩; have HB2 := Aside0.mk (((Below.refl w.heap.size w).alloc (Nat.le_refl _) (.cells #[.int .i64 0, .int .i64 0, .int .i64 0, .slice none 0 0] 47)).trans (hb2.mono (by simp))); have KR2 := Aside0.mk ((hb2.block w.heap.size (by simp)).trans (heap_alloc_new w (.cells #[.int .i64 0, .int .i64 0, .int .i64 0, .slice none 0 0] 47))); rw [World.size_alloc] at h2; have H2 := Aside0.mk h2; clear h2 hb2)
    | (go_at_call 36; (with_reducible refine (znumber (n := 3) H2.out).mono ?_); rintro e w3 ⟨rfl, h3, hw3⟩; have H3 := Aside0.mk h3; have HW3 := Aside0.mk hw3; clear h3 hw3)
    | (go_at_call 36; (with_reducible refine (znumber (n := 2) H3.out).mono ?_); rintro e w4 ⟨rfl, h4, hw4⟩; have H4 := Aside0.mk h4; have HW4 := Aside0.mk hw4; clear h4 hw4)
    | (go_at_call 36; (with_reducible refine (znumber (n := 1) H4.out).mono ?_); rintro e w5 ⟨rfl, h5, hw5⟩; have H5 := Aside0.mk h5; have HW5 := Aside0.mk hw5; clear h5 hw5)
    | (go_at_call 36; (with_reducible refine (znumber (n := 0) (H5.out.below ((Below.refl _ _).alloc (Nat.le_refl _) _))).mono ?_); rintro e w6 ⟨rfl, h6, hw6⟩; have H6 := Aside0.mk h6; have HW6 := Aside0.mk hw6; clear h6 hw6))
  have hg5 : w.heap.size + 1 < w5.heap.size := H5.out.lt
  have kp : w6.heap[w5.heap.size]? = some (.cells #[.int .i64 0, .int .i64 0, .int .i64 0, .slice none 0 0] 47 (0, 0)) := by
    obtain ⟨v, hv⟩ := HW6.out
    rw [hv]
    exact (heap_setCell_other _ _ _ _ (by simp only; omega)).trans (heap_alloc_new _ _)
  have hbw : Below w.heap.size w w6 := by
    obtain ⟨v3, h3⟩ := HW3.out
    obtain ⟨v4, h4⟩ := HW4.out
    obtain ⟨v5, h5⟩ := HW5.out
    obtain ⟨v6, h6⟩ := HW6.out
    have b3 : Below w.heap.size w w3 := by rw [h3]; exact below_cell HB2.out (by omega)
    have b4 : Below w.heap.size w w4 := by rw [h4]; exact below_cell b3 (by omega)
    have b5 : Below w.heap.size w w5 := by rw [h5]; exact below_cell b4 (by omega)
    rw [h6]
    exact below_cell (b5.alloc b5.size _) (by omega)
  have kr : w6.heap[w.heap.size]? = some (.cells #[.int .i64 0, .int .i64 0, .int .i64 0, .slice none 0 0] 47 (0, 0)) := by
    obtain ⟨v3, h3⟩ := HW3.out
    obtain ⟨v4, h4⟩ := HW4.out
    obtain ⟨v5, h5⟩ := HW5.out
    obtain ⟨v6, h6⟩ := HW6.out
    have s5 : w.heap.size < w5.heap.size := by omega
    have e6 : (w5.alloc (.cells #[.int .i64 0, .int .i64 0, .int .i64 0, .slice none 0 0] 47)).heap[w.heap.size]? = w5.heap[w.heap.size]? := (Below.refl w5.heap.size w5).alloc (Nat.le_refl _) (.cells #[.int .i64 0, .int .i64 0, .int .i64 0, .slice none 0 0] 47) |>.block w.heap.size s5
    rw [h6, heap_setCell_other _ _ _ _ (by simp only; omega), e6, h5, heap_setCell_other _ _ _ _ (by simp only; omega), h4, heap_setCell_other _ _ _ _ (by simp only; omega), h3, heap_setCell_other _ _ _ _ (by simp only; omega)]
    exact KR2.out
  have HKr := Aside0.mk kr
  clear kr
  have k0 : w6.cell? ⟨w5.heap.size, 0, none⟩ = some (.int .i64 0) := cell_of_row w6 _ 0 _ _ _ kp
  have k1 : w6.cell? ⟨w5.heap.size, 1, none⟩ = some (.int .i64 0) := cell_of_row w6 _ 1 _ _ _ kp
  have k2 : w6.cell? ⟨w5.heap.size, 2, none⟩ = some (.int .i64 0) := cell_of_row w6 _ 2 _ _ _ kp
  have k3 : w6.cell? ⟨w5.heap.size, 3, none⟩ = some (.slice none 0 0) := cell_of_row w6 _ 3 _ _ _ kp
  have HKp := Aside0.mk kp
  have HBW := Aside0.mk hbw
  clear kp hbw
  go_wp2
  refine wp_loop_rounds 1 ?_
  rw [rounds_succ]
  go_wp2_with (first
    | (go_at_call 76; (with_reducible refine (zend H6.out).mono ?_); rintro e w7 ⟨rfl, rfl⟩)
    | (go_at_call 84; (with_reducible refine (may_nil _).mono ?_); rintro e w8 ⟨rfl, hb8⟩; have q0 := pw_cell_below hb8 k0; have q1 := pw_cell_below hb8 k1; have q2 := pw_cell_below hb8 k2; have q3 := pw_cell_below hb8 k3; have kr8 := (hb8.block w.heap.size (Array.getElem?_eq_some_iff.1 HKr.out).1).trans HKr.out; have p0 : w8.cell? ⟨w.heap.size, 0, none⟩ = some (.int .i64 0) := cell_of_row w8 _ 0 _ _ _ kr8; have p1 : w8.cell? ⟨w.heap.size, 1, none⟩ = some (.int .i64 0) := cell_of_row w8 _ 1 _ _ _ kr8; have p2 : w8.cell? ⟨w.heap.size, 2, none⟩ = some (.int .i64 0) := cell_of_row w8 _ 2 _ _ _ kr8; have p3 : w8.cell? ⟨w.heap.size, 3, none⟩ = some (.slice none 0 0) := cell_of_row w8 _ 3 _ _ _ kr8; have z0 := frozen_of_row w8 w.heap.size 0 _ _ kr8; have z1 := frozen_of_row w8 w.heap.size 1 _ _ kr8; have z2 := frozen_of_row w8 w.heap.size 2 _ _ kr8; have z3 := frozen_of_row w8 w.heap.size 3 _ _ kr8; have HB8 := Aside0.mk (HBW.out.trans (hb8.mono HBW.out.size)); clear kr8 hb8))
  exact bodyPost_ret (v := .tuple #[.agg #[.int .i64 0, .int .i64 0, .int .i64 0, .slice none 0 0], .int .i64 0]) (by simp [results, Tryz.results41, go_sem, p0, p1, p2, p3]) rfl ⟨rfl, (((HB8.out.setCell (Nat.le_refl _) _).setCell (Nat.le_refl _) _).setCell (Nat.le_refl _) _).setCell (Nat.le_refl _) _⟩
end Go.Proofs.YtapcoekakbbmcaaGreatDoor
