-- PRINTED BY print.sh 35421559b90ae4d0a3588c463048766b98c2df88dd9212a6774a882060cdf62d: not written by this session
import Derived.Test.YtapcoekakbbmcaaGreatDoorPWalSamex0
import Derived.Test.YtapcoekakbbmcaaGreatDoorPWalSamex1
import Derived.Test.YtapcoekakbbmcaaGreatDoorPWalSamex2
namespace Go.Proofs.YtapcoekakbbmcaaGreatDoor.PWalSame
open Go.RowKit Go.Proofs.YtapcoekakbbmcaaGreatDoorW.PrintWords Go.Proofs.YtapcoekakbbmcaaGreatDoorW.PrintLast Go.Proofs.YtapcoekakbbmcaaGreatDoorW.PrintMore
attribute [local go_sem] max2_int min2_int max_two min_two max_three min_three max_four min_four   -- for this text's walks alone
set_option linter.unusedVariables false
set_option linter.unusedSimpArgs false

attribute [local go_sem high] eqA28 eqA70
/-! ### slices_Index_int_int: function 166 -/
def slices_Index_int_int.l0 : Nat → List Int → Int → Int → Int → Option (Int)
  | 0, _, _, _, _ => none
  | k + 1, x0, x1, x7, x8 => if x8 < x7 then (if 0 ≤ x8 then (if x8 < (x0.length : Int) then (if x1 = (rd x0 x8) then (some x8) else (slices_Index_int_int.l0 k x0 x1 x7 (wrap64 (x8 + 1)))) else (none)) else (none)) else (some (-1))
def slices_Index_int_int.f (k : Nat) (l0 : List Int) (a1 : Int) : Option (Int) := slices_Index_int_int.l0 k l0 a1 (l0.length : Int) 0
theorem slices_Index_int_int.mono_l : ∀ k, (∀ y0 y1 y2 y3, LeO (slices_Index_int_int.l0 k y0 y1 y2 y3) (slices_Index_int_int.l0 (k + 1) y0 y1 y2 y3))
  | 0 => fun _ _ _ _ r h => by simp [slices_Index_int_int.l0] at h
  | k + 1 => by
    have ih0 := slices_Index_int_int.mono_l k
    · intro y0 y1 y2 y3
      unfold slices_Index_int_int.l0
      repeat' first
      | (with_reducible exact ih0 _ _ _ _)
      | (with_reducible exact LeO.refl _)
      | (with_reducible exact LeO.none _)
      | (with_reducible refine LeO.ite ?_ ?_)
      | (with_reducible refine LeO.bind ?_ (fun _ => ?_))
      | exact ih0 _ _ _ _
      | exact LeO.none _
      | refine LeO.ite ?_ ?_
      | refine LeO.bind ?_ (fun _ => ?_)
theorem slices_Index_int_int.mono : ∀ a0 a1 k, LeO (slices_Index_int_int.f k a0 a1) (slices_Index_int_int.f (k + 1) a0 a1) := by
  intro a0 a1 k
  have ih0 := slices_Index_int_int.mono_l k
  unfold slices_Index_int_int.f
  repeat' first
      | (with_reducible exact ih0 _ _ _ _)
      | (with_reducible exact LeO.refl _)
      | (with_reducible exact LeO.none _)
      | (with_reducible refine LeO.ite ?_ ?_)
      | (with_reducible refine LeO.bind ?_ (fun _ => ?_))
      | exact ih0 _ _ _ _
      | exact LeO.none _
      | refine LeO.ite ?_ ?_
      | refine LeO.bind ?_ (fun _ => ?_)
set_option maxHeartbeats 8000000 in
set_option maxRecDepth 100000 in
theorem slices_Index_int_int.calls (k : Nat) (A0 : Option Addr) (c0 : Nat) (l0 : List Int) (a1 : Int) (r : Int) (w : World) (hr0 : Kd.C (Kd.int .i64) w A0 l0.length l0) (hc0 : l0.length ≤ c0) (h : slices_Index_int_int.f k l0 a1 = some r) :
    Calls Tryz.prog 166 #[.slice A0 l0.length c0, .int .i64 a1] w fun e w' => e = .returned (.int .i64 r) ∧ Drawn0 w w' := by
  have HR0 := Aside0.mk hr0
  have HC0 := Aside0.mk hc0
  clear hr0 hc0
  have H : (slices_Index_int_int.l0 k l0 a1 (l0.length : Int) 0) = some r := h
  clear h
  have H' := Aside0.mk H
  clear H
  go_enter Tryz.func166, Tryz.ntmps166
  go_wp2
  go_loopg [8] k (fun kq v8 w' => ∃ (x8_1 : Int), v8 = .int .i64 x8_1 ∧ Aside0 (slices_Index_int_int.l0 kq l0 a1 (l0.length : Int) x8_1 = some r) ∧ Aside0 (kq ≤ k) ∧ Drawn0 w w')
  case atStart => exact ⟨(0), (by first | rfl | (simp; done) | (simp [*]; done)), H', ⟨Nat.le_refl _⟩, by repeat (first | exact Drawn0.refl _ | apply Drawn0.step)⟩
  case round =>
    clear H'
    try clear c1
    try clear p2
    obtain ⟨x8_1, rfl, HA, HK1, ⟨m1, rfl⟩⟩ := hrel
    cases gk with
    | zero => exact absurd HA.out (by simp [slices_Index_int_int.l0])
    | succ k1 =>
      have H := HA.out
      clear HA
      simp only [slices_Index_int_int.l0] at H
      by_cases c3 : x8_1 < (l0.length : Int)
      · rw [if_pos c3] at H
        have c3b0 : decide (x8_1 < (l0.length : Int)) = true := decide_eq_true c3
        clear c3
        by_cases c4 : 0 ≤ x8_1
        · rw [if_pos c4] at H
          have c4b0 : decide (0 ≤ x8_1) = true := decide_eq_true c4
          clear c4
          by_cases c5 : x8_1 < (l0.length : Int)
          · rw [if_pos c5] at H
            have c5b0 : decide (x8_1 < (l0.length : Int)) = true := decide_eq_true c5
            clear c5
            by_cases c6 : a1 = (rd l0 x8_1)
            · rw [if_pos c6] at H
              have c6b0 : (a1 == (rd l0 x8_1)) = true := beq_iff_eq.mpr c6
              have c6b1 : (a1 != (rd l0 x8_1)) = false := bne_eq_false_iff_eq.mpr c6
              clear c6
              obtain rfl := Option.some.inj H
              have p130 : 0 ≤ (x8_1 : Int) := of_decide_eq_true (by first | (with_reducible assumption) | assumption)
              have q130 : x8_1 < (l0.length : Int) := of_decide_eq_true (by first | (with_reducible assumption) | assumption)
              obtain ⟨ad130, e130, hx130_0⟩ := Kd.at_int HR0.out x8_1 p130 q130
              cases e130
              replace p130 := eq_true p130
              replace q130 := eq_true q130
              go_wp2
              go_ret
              exact ⟨by first | rfl | (simp; done) | (simp [*]; done), by repeat (first | exact Drawn0.refl _ | apply Drawn0.step)⟩
            · rw [if_neg c6] at H
              have c6b0 : (a1 == (rd l0 x8_1)) = false := beq_eq_false_iff_ne.mpr c6
              have c6b1 : (a1 != (rd l0 x8_1)) = true := bne_iff_ne.mpr c6
              have H' := Aside0.mk H
              clear H
              have p130 : 0 ≤ (x8_1 : Int) := of_decide_eq_true (by first | (with_reducible assumption) | assumption)
              have q130 : x8_1 < (l0.length : Int) := of_decide_eq_true (by first | (with_reducible assumption) | assumption)
              obtain ⟨ad130, e130, hx130_0⟩ := Kd.at_int HR0.out x8_1 p130 q130
              cases e130
              replace p130 := eq_true p130
              replace q130 := eq_true q130
              go_wp2
              go_roundg k1
              case measure => have := HK1.out; omega
              case rel => exact ⟨(wrap64 (x8_1 + 1)), (by first | rfl | (simp; done) | (simp [*]; done)), H', ⟨by have := HK1.out; omega⟩, by repeat (first | exact Drawn0.refl _ | apply Drawn0.step)⟩
          · rw [if_neg c5] at H
            exact absurd H (by simp)
        · rw [if_neg c4] at H
          exact absurd H (by simp)
      · rw [if_neg c3] at H
        have c3b0 : decide (x8_1 < (l0.length : Int)) = false := decide_eq_false c3
        clear c3
        obtain rfl := Option.some.inj H
        go_wp2
        go_ret
        exact ⟨by first | rfl | (simp; done) | (simp [*]; done), by repeat (first | exact Drawn0.refl _ | apply Drawn0.step)⟩

/-! ### slices_Contains_int_int: function 142 -/
def slices_Contains_int_int.f (k : Nat) (l0 : List Int) (a1 : Int) : Option (Bool) := (slices_Index_int_int.f k l0 a1).bind fun t131 => (some (decide (t131 ≥ 0)))
theorem slices_Contains_int_int.mono : ∀ a0 a1 k, LeO (slices_Contains_int_int.f k a0 a1) (slices_Contains_int_int.f (k + 1) a0 a1) := by
  intro a0 a1 k
  unfold slices_Contains_int_int.f
  repeat' first
      | (with_reducible exact slices_Index_int_int.mono _ _ _)
      | (with_reducible exact LeO.refl _)
      | (with_reducible exact LeO.none _)
      | (with_reducible refine LeO.ite ?_ ?_)
      | (with_reducible refine LeO.bind ?_ (fun _ => ?_))
      | exact slices_Index_int_int.mono _ _ _
      | exact LeO.none _
      | refine LeO.ite ?_ ?_
      | refine LeO.bind ?_ (fun _ => ?_)
set_option maxHeartbeats 8000000 in
set_option maxRecDepth 100000 in
theorem slices_Contains_int_int.calls (k : Nat) (A0 : Option Addr) (c0 : Nat) (l0 : List Int) (a1 : Int) (r : Bool) (w : World) (hr0 : Kd.C (Kd.int .i64) w A0 l0.length l0) (hc0 : l0.length ≤ c0) (h : slices_Contains_int_int.f k l0 a1 = some r) :
    Calls Tryz.prog 142 #[.slice A0 l0.length c0, .int .i64 a1] w fun e w' => e = .returned (.bool r) ∧ Drawn0 w w' := by
  have HR0 := Aside0.mk hr0
  have HC0 := Aside0.mk hc0
  clear hr0 hc0
  have H : ((slices_Index_int_int.f k l0 a1).bind fun t131 => (some (decide (t131 ≥ 0)))) = some r := h
  clear h
  replace H := Option.bind_eq_some_iff.mp H
  obtain ⟨t131, A30, H⟩ := H
  replace H : (some (decide (t131 ≥ 0))) = some r := H
  have A3 := Aside0.mk A30
  clear A30
  obtain rfl := Option.some.inj H
  go_enter Tryz.func142, Tryz.ntmps142
  go_wp2_with (first | ((with_reducible refine gate_callee (f := 166) rfl ?_); refine goesL_ (some 7) rfl rfl Tryz.func166 (by kernel_rfl) rfl #[.slice A0 l0.length c0, .int .i64 a1] rfl (by (try simp only [List.map_toArray, List.map_cons, List.map_nil]); first | done | rfl | (simp only [List.length_drop, List.length_take]; rfl)) ?_; (with_reducible refine (slices_Index_int_int.calls k _ _ l0 a1 t131 _ ?side1 ?side2 A3.out).mono ?_); (case side1 => repeat (first | exact HR0.out | (with_reducible refine Kd.C_alloc ?_ _) | (with_reducible refine Kd.C_drewN ?_ _) | (with_reducible refine Kd.C_drew ?_))); (case side2 => exact HC0.out); rintro e w' ⟨rfl, ⟨nd, rfl⟩⟩; refine ⟨_, rfl, ?_⟩))
  go_ret
  exact ⟨by first | rfl | (simp; done) | (simp [*]; done), by repeat (first | exact Drawn0.refl _ | apply Drawn0.step)⟩

/-! ### event_numbered: function 113 -/
def event_numbered.f (k : Nat) (a0 : Int) : Option (Bool) := (slices_Contains_int_int.f k (([1, 2, 7, 8, 9, 10] : List Int)) a0).bind fun t135 => (some t135)
theorem event_numbered.mono : ∀ a0 k, LeO (event_numbered.f k a0) (event_numbered.f (k + 1) a0) := by
  intro a0 k
  unfold event_numbered.f
  repeat' first
      | (with_reducible exact slices_Contains_int_int.mono _ _ _)
      | (with_reducible exact LeO.refl _)
      | (with_reducible exact LeO.none _)
      | (with_reducible refine LeO.ite ?_ ?_)
      | (with_reducible refine LeO.bind ?_ (fun _ => ?_))
      | exact slices_Contains_int_int.mono _ _ _
      | exact LeO.none _
      | refine LeO.ite ?_ ?_
      | refine LeO.bind ?_ (fun _ => ?_)
set_option maxHeartbeats 8000000 in
set_option maxRecDepth 100000 in
theorem event_numbered.calls (k : Nat) (a0 : Int) (r : Bool) (w : World) (h : event_numbered.f k a0 = some r) :
    Calls Tryz.prog 113 #[.int .i64 a0] w fun e w' => e = .returned (.bool r) ∧ Below w.heap.size w w' := by
  have HB := Aside0.mk (Below.refl w.heap.size w)
  have H : ((slices_Contains_int_int.f k (([1, 2, 7, 8, 9, 10] : List Int)) a0).bind fun t135 => (some t135)) = some r := h
  clear h
  obtain ⟨y132, hy132⟩ : ∃ y_ : List Int, y_ = (([1, 2, 7, 8, 9, 10] : List Int)) := ⟨_, rfl⟩
  replace H : ((slices_Contains_int_int.f k y132 a0).bind fun t135 => (some t135)) = some r := by first | (rw [hy132]; with_reducible exact H) | (have H2_ := (Option.bind_some _ _).symm.trans H; rw [hy132]; with_reducible exact H2_) | (have H2_ := (Option.bind_some _ _).symm.trans H; with_reducible exact H2_) | with_reducible exact H | (rw [hy132]; exact H) | exact H
  have Ny132 := Aside0.mk hy132
  clear hy132
  replace H := Option.bind_eq_some_iff.mp H
  obtain ⟨t135, A20, H⟩ := H
  replace H : (some t135) = some r := H
  have A2 := Aside0.mk A20
  clear A20
  obtain rfl := Option.some.inj H
  go_enter Tryz.func113, Tryz.ntmps113
  go_wp2_with (first | ((with_reducible refine gate_dst (N := 3) rfl ?_); refine Kd.R_lit (Kd.int .i64) _ 3 ?hg (N := 3) ?hd (xs := ([1, 2, 7, 8, 9, 10] : List Int)) (inner := [.int .i64 1, .int .i64 2, .int .i64 7, .int .i64 8, .int .i64 9, .int .i64 10]) (ok := fun _ => True) (okp := fun _ => True) ?hr ?hp (fun _ hk => hk) trivial (Below.refl _ _) (Nat.le_refl _) (by simp) ?_; (case hd => rfl); (case hg => rfl); (case hr => first | (go_simp; done) | (go_simp; rfl)); (case hp => exact (Reps.one (show Kd.M (Kd.int .i64) _ _ _ 1 [.int .i64 1] from rfl) (Reps.one (show Kd.M (Kd.int .i64) _ _ _ 2 [.int .i64 2] from rfl) (Reps.one (show Kd.M (Kd.int .i64) _ _ _ 7 [.int .i64 7] from rfl) (Reps.one (show Kd.M (Kd.int .i64) _ _ _ 8 [.int .i64 8] from rfl) (Reps.one (show Kd.M (Kd.int .i64) _ _ _ 9 [.int .i64 9] from rfl) (Reps.one (show Kd.M (Kd.int .i64) _ _ _ 10 [.int .i64 10] from rfl) (Reps.none _ _)))))))); intro v133 w3 ho4 hb hg_ hnew_; clear hg_ hnew_; (first | rw [← Ny132.out] at ho4 | (simp only [Int.reduceToNat] at ho4; rw [← Ny132.out] at ho4)); have n0_ := Aside0.mk (Kd.R_lower ho4 (below_size (by repeat (first | (with_reducible first | exact HB.out | apply below_alloc | apply pw_below_drewN | apply below_drew1) | exact HB.out)))); have n1_ := Aside0.mk (below_step (by repeat (first | (with_reducible first | exact HB.out | apply below_alloc | apply pw_below_drewN | apply below_drew1) | exact HB.out)) hb); clear HB; have HO134 := n0_; have HB := n1_; clear n0_ n1_; clear hb ho4; obtain ⟨Ao5, co5, eo5⟩ := Kd.R_slice HO134.out; subst eo5) | ((with_reducible refine gate_callee (f := 142) rfl ?_); refine goesL_ (some 5) rfl rfl Tryz.func142 (by kernel_rfl) rfl #[.slice Ao5 y132.length co5, .int .i64 a0] rfl (by (try simp only [List.map_toArray, List.map_cons, List.map_nil]); first | done | rfl | (simp only [List.length_drop, List.length_take]; rfl)) ?_; (with_reducible refine (slices_Contains_int_int.calls k _ _ y132 a0 t135 _ ?side1 ?side2 A2.out).mono ?_); (case side1 => repeat (first | exact (Kd.R_reads' HO134.out).2.2 | (with_reducible refine Kd.C_alloc ?_ _) | (with_reducible refine Kd.C_drewN ?_ _) | (with_reducible refine Kd.C_drew ?_))); (case side2 => exact (Kd.R_reads' HO134.out).2.1); rintro e w' ⟨rfl, ⟨nd, rfl⟩⟩; refine ⟨_, rfl, ?_⟩))
  go_ret
  exact ⟨by first | rfl | (simp [errW_none, errW_some] <;> rfl) | (simp [*, errW_none, errW_some] <;> rfl), by repeat (first | (with_reducible first | exact HB.out | apply below_alloc | apply pw_below_drewN | apply below_drew1) | exact HB.out)⟩

-- NOT PRINTED: function 75 (event_kinds)

/-! ### api_Value_107: function 107 -/
def api_Value_107.l0 : Nat → List (S70) → List (S70) → Int → Int → Option (Bool)
  | 0, _, _, _, _ => none
  | k + 1, x0, x1, x12, x13 => if x13 < x12 then (if 0 ≤ x13 then (if x13 < (x0.length : Int) then (if x13 < (x1.length : Int) then (if (!(((rd_T70 x0 x13).f0) == ((rd_T70 x1 x13).f0)) || (!(((rd_T70 x0 x13).f1) == ((rd_T70 x1 x13).f1)) || (!((((rd_T70 x0 x13).f2).toList) == (((rd_T70 x1 x13).f2).toList))))) = true then (some false) else (api_Value_107.l0 k x0 x1 x12 (wrap64 (x13 + 1)))) else (none)) else (none)) else (none)) else (some true)
def api_Value_107.f (k : Nat) (l0 : List (S70)) (l1 : List (S70)) : Option (Bool) := if (l0.length : Int) = (l1.length : Int) then (api_Value_107.l0 k l0 l1 (l0.length : Int) 0) else (some false)
theorem api_Value_107.mono_l : ∀ k, (∀ y0 y1 y2 y3, LeO (api_Value_107.l0 k y0 y1 y2 y3) (api_Value_107.l0 (k + 1) y0 y1 y2 y3))
  | 0 => fun _ _ _ _ r h => by simp [api_Value_107.l0] at h
  | k + 1 => by
    have ih0 := api_Value_107.mono_l k
    · intro y0 y1 y2 y3
      unfold api_Value_107.l0
      repeat' first
      | (with_reducible exact ih0 _ _ _ _)
      | (with_reducible exact LeO.refl _)
      | (with_reducible exact LeO.none _)
      | (with_reducible refine LeO.ite ?_ ?_)
      | (with_reducible refine LeO.bind ?_ (fun _ => ?_))
      | exact ih0 _ _ _ _
      | exact LeO.none _
      | refine LeO.ite ?_ ?_
      | refine LeO.bind ?_ (fun _ => ?_)
theorem api_Value_107.mono : ∀ a0 a1 k, LeO (api_Value_107.f k a0 a1) (api_Value_107.f (k + 1) a0 a1) := by
  intro a0 a1 k
  have ih0 := api_Value_107.mono_l k
  unfold api_Value_107.f
  repeat' first
      | (with_reducible exact ih0 _ _ _ _)
      | (with_reducible exact LeO.refl _)
      | (with_reducible exact LeO.none _)
      | (with_reducible refine LeO.ite ?_ ?_)
      | (with_reducible refine LeO.bind ?_ (fun _ => ?_))
      | exact ih0 _ _ _ _
      | exact LeO.none _
      | refine LeO.ite ?_ ?_
      | refine LeO.bind ?_ (fun _ => ?_)
set_option maxHeartbeats 8000000 in
set_option maxRecDepth 100000 in
theorem api_Value_107.calls (k : Nat) (A0 : Option Addr) (c0 : Nat) (l0 : List (S70)) (A1 : Option Addr) (c1 : Nat) (l1 : List (S70)) (r : Bool) (w : World) (hr0 : Kd.C k70 w A0 l0.length l0) (hc0 : l0.length ≤ c0) (hr1 : Kd.C k70 w A1 l1.length l1) (hc1 : l1.length ≤ c1) (h : api_Value_107.f k l0 l1 = some r) :
    Calls Tryz.prog 107 #[.slice A0 l0.length c0, .slice A1 l1.length c1] w fun e w' => e = .returned (.bool r) ∧ Drawn0 w w' := by
  have hu70 := Tryz.underlying70
  have HR0 := Aside0.mk hr0
  have HC0 := Aside0.mk hc0
  clear hr0 hc0
  have HR1 := Aside0.mk hr1
  have HC1 := Aside0.mk hc1
  clear hr1 hc1
  have H : (if (l0.length : Int) = (l1.length : Int) then (api_Value_107.l0 k l0 l1 (l0.length : Int) 0) else (some false)) = some r := h
  clear h
  by_cases c3 : (l0.length : Int) = (l1.length : Int)
  · rw [if_pos c3] at H
    have c3b0 : ((l0.length : Int) == (l1.length : Int)) = true := beq_iff_eq.mpr c3
    have c3b1 : ((l0.length : Int) != (l1.length : Int)) = false := bne_eq_false_iff_eq.mpr c3
    have c3b2 : (l0.length == l1.length) = true := by first | simpa using c3 | (simp at c3 ⊢; omega)
    clear c3
    have H' := Aside0.mk H
    clear H
    go_enter Tryz.func107, Tryz.ntmps107
    go_wp2
    repeat (go_quiet (fail); try go_wp2)
    go_loopg [13] k (fun kq v13 w' => ∃ (x13_1 : Int), v13 = .int .i64 x13_1 ∧ Aside0 (api_Value_107.l0 kq l0 l1 (l0.length : Int) x13_1 = some r) ∧ Aside0 (kq ≤ k) ∧ Drawn0 w w')
    case atStart => exact ⟨(0), (by first | rfl | (simp; done) | (simp [*]; done)), H', ⟨Nat.le_refl _⟩, by repeat (first | exact Drawn0.refl _ | apply Drawn0.step)⟩
    case round =>
      clear H'
      try clear c1
      try clear p2
      try clear c3
      try clear c3b0
      try clear c3b1
      try clear c3b2
      obtain ⟨x13_1, rfl, HA, HK1, ⟨m1, rfl⟩⟩ := hrel
      cases gk with
      | zero => exact absurd HA.out (by simp [api_Value_107.l0])
      | succ k1 =>
        have H := HA.out
        clear HA
        simp only [api_Value_107.l0] at H
        by_cases c4 : x13_1 < (l0.length : Int)
        · rw [if_pos c4] at H
          have c4b0 : decide (x13_1 < (l0.length : Int)) = true := decide_eq_true c4
          clear c4
          by_cases c5 : 0 ≤ x13_1
          · rw [if_pos c5] at H
            have c5b0 : decide (0 ≤ x13_1) = true := decide_eq_true c5
            clear c5
            by_cases c6 : x13_1 < (l0.length : Int)
            · rw [if_pos c6] at H
              have c6b0 : decide (x13_1 < (l0.length : Int)) = true := decide_eq_true c6
              clear c6
              by_cases c7 : x13_1 < (l1.length : Int)
              · rw [if_pos c7] at H
                have c7b0 : decide (x13_1 < (l1.length : Int)) = true := decide_eq_true c7
                clear c7
                by_cases c8 : (!(((rd_T70 l0 x13_1).f0) == ((rd_T70 l1 x13_1).f0)) || (!(((rd_T70 l0 x13_1).f1) == ((rd_T70 l1 x13_1).f1)) || (!((((rd_T70 l0 x13_1).f2).toList) == (((rd_T70 l1 x13_1).f2).toList))))) = true
                · rw [if_pos c8] at H
                  have c8b0 : (!(((rd_T70 l0 x13_1).f0) == ((rd_T70 l1 x13_1).f0)) || (!(((rd_T70 l0 x13_1).f1) == ((rd_T70 l1 x13_1).f1)) || (!((((rd_T70 l0 x13_1).f2).toList) == (((rd_T70 l1 x13_1).f2).toList))))) = true := c8
                  clear c8
                  obtain rfl := Option.some.inj H
                  have p136 : 0 ≤ (x13_1 : Int) := of_decide_eq_true (by first | (with_reducible assumption) | assumption)
                  have q136 : x13_1 < (l0.length : Int) := of_decide_eq_true (by first | (with_reducible assumption) | assumption)
                  obtain ⟨ad136, e136, hx136_0, hx136_1, hx136_2⟩ := at_T70 HR0.out x13_1 p136 q136
                  cases e136
                  replace p136 := eq_true p136
                  replace q136 := eq_true q136
                  have p137 : 0 ≤ (x13_1 : Int) := of_decide_eq_true (by first | (with_reducible assumption) | assumption)
                  have q137 : x13_1 < (l1.length : Int) := of_decide_eq_true (by first | (with_reducible assumption) | assumption)
                  obtain ⟨ad137, e137, hx137_0, hx137_1, hx137_2⟩ := at_T70 HR1.out x13_1 p137 q137
                  cases e137
                  replace p137 := eq_true p137
                  replace q137 := eq_true q137
                  go_wp2
                  repeat (go_quiet (fail); try go_wp2)
                  go_ret
                  exact ⟨by first | rfl | (simp; done) | (simp [*]; done), by repeat (first | exact Drawn0.refl _ | apply Drawn0.step)⟩
                · rw [if_neg c8] at H
                  have c8b0 : (!(((rd_T70 l0 x13_1).f0) == ((rd_T70 l1 x13_1).f0)) || (!(((rd_T70 l0 x13_1).f1) == ((rd_T70 l1 x13_1).f1)) || (!((((rd_T70 l0 x13_1).f2).toList) == (((rd_T70 l1 x13_1).f2).toList))))) = false := by simpa using c8
                  clear c8
                  have H' := Aside0.mk H
                  clear H
                  have p136 : 0 ≤ (x13_1 : Int) := of_decide_eq_true (by first | (with_reducible assumption) | assumption)
                  have q136 : x13_1 < (l0.length : Int) := of_decide_eq_true (by first | (with_reducible assumption) | assumption)
                  obtain ⟨ad136, e136, hx136_0, hx136_1, hx136_2⟩ := at_T70 HR0.out x13_1 p136 q136
                  cases e136
                  replace p136 := eq_true p136
                  replace q136 := eq_true q136
                  have p137 : 0 ≤ (x13_1 : Int) := of_decide_eq_true (by first | (with_reducible assumption) | assumption)
                  have q137 : x13_1 < (l1.length : Int) := of_decide_eq_true (by first | (with_reducible assumption) | assumption)
                  obtain ⟨ad137, e137, hx137_0, hx137_1, hx137_2⟩ := at_T70 HR1.out x13_1 p137 q137
                  cases e137
                  replace p137 := eq_true p137
                  replace q137 := eq_true q137
                  go_wp2
                  repeat (go_quiet (fail); try go_wp2)
                  go_roundg k1
                  case measure => have := HK1.out; omega
                  case rel => exact ⟨(wrap64 (x13_1 + 1)), (by first | rfl | (simp; done) | (simp [*]; done)), H', ⟨by have := HK1.out; omega⟩, by repeat (first | exact Drawn0.refl _ | apply Drawn0.step)⟩
              · rw [if_neg c7] at H
                exact absurd H (by simp)
            · rw [if_neg c6] at H
              exact absurd H (by simp)
          · rw [if_neg c5] at H
            exact absurd H (by simp)
        · rw [if_neg c4] at H
          have c4b0 : decide (x13_1 < (l0.length : Int)) = false := decide_eq_false c4
          clear c4
          obtain rfl := Option.some.inj H
          go_wp2
          repeat (go_quiet (fail); try go_wp2)
          go_ret
          exact ⟨by first | rfl | (simp; done) | (simp [*]; done), by repeat (first | exact Drawn0.refl _ | apply Drawn0.step)⟩
  · rw [if_neg c3] at H
    have c3b0 : ((l0.length : Int) == (l1.length : Int)) = false := beq_eq_false_iff_ne.mpr c3
    have c3b1 : ((l0.length : Int) != (l1.length : Int)) = true := bne_iff_ne.mpr c3
    have c3b2 : (l0.length == l1.length) = false := by first | simpa using c3 | (simp at c3 ⊢; omega)
    obtain rfl := Option.some.inj H
    go_enter Tryz.func107, Tryz.ntmps107
    go_wp2
    repeat (go_quiet (fail); try go_wp2)
    go_ret
    exact ⟨by first | rfl | (simp; done) | (simp [*]; done), by repeat (first | exact Drawn0.refl _ | apply Drawn0.step)⟩

/-! ### api_Column_164: function 164 -/
def api_Column_164.l0 : Nat → List (S28) → List (S28) → Int → Int → Option (Bool)
  | 0, _, _, _, _ => none
  | k + 1, x0, x1, x12, x13 => if x13 < x12 then (if 0 ≤ x13 then (if x13 < (x0.length : Int) then (if x13 < (x1.length : Int) then (if (!((((rd_T28 x0 x13).f0).toList) == (((rd_T28 x1 x13).f0).toList)) || (!(((rd_T28 x0 x13).f1) == ((rd_T28 x1 x13).f1)) || (!(((rd_T28 x0 x13).f2) == ((rd_T28 x1 x13).f2))))) = true then (some false) else (api_Column_164.l0 k x0 x1 x12 (wrap64 (x13 + 1)))) else (none)) else (none)) else (none)) else (some true)
def api_Column_164.f (k : Nat) (l0 : List (S28)) (l1 : List (S28)) : Option (Bool) := if (l0.length : Int) = (l1.length : Int) then (api_Column_164.l0 k l0 l1 (l0.length : Int) 0) else (some false)
theorem api_Column_164.mono_l : ∀ k, (∀ y0 y1 y2 y3, LeO (api_Column_164.l0 k y0 y1 y2 y3) (api_Column_164.l0 (k + 1) y0 y1 y2 y3))
  | 0 => fun _ _ _ _ r h => by simp [api_Column_164.l0] at h
  | k + 1 => by
    have ih0 := api_Column_164.mono_l k
    · intro y0 y1 y2 y3
      unfold api_Column_164.l0
      repeat' first
      | (with_reducible exact ih0 _ _ _ _)
      | (with_reducible exact LeO.refl _)
      | (with_reducible exact LeO.none _)
      | (with_reducible refine LeO.ite ?_ ?_)
      | (with_reducible refine LeO.bind ?_ (fun _ => ?_))
      | exact ih0 _ _ _ _
      | exact LeO.none _
      | refine LeO.ite ?_ ?_
      | refine LeO.bind ?_ (fun _ => ?_)
theorem api_Column_164.mono : ∀ a0 a1 k, LeO (api_Column_164.f k a0 a1) (api_Column_164.f (k + 1) a0 a1) := by
  intro a0 a1 k
  have ih0 := api_Column_164.mono_l k
  unfold api_Column_164.f
  repeat' first
      | (with_reducible exact ih0 _ _ _ _)
      | (with_reducible exact LeO.refl _)
      | (with_reducible exact LeO.none _)
      | (with_reducible refine LeO.ite ?_ ?_)
      | (with_reducible refine LeO.bind ?_ (fun _ => ?_))
      | exact ih0 _ _ _ _
      | exact LeO.none _
      | refine LeO.ite ?_ ?_
      | refine LeO.bind ?_ (fun _ => ?_)
set_option maxHeartbeats 8000000 in
set_option maxRecDepth 100000 in
theorem api_Column_164.calls (k : Nat) (A0 : Option Addr) (c0 : Nat) (l0 : List (S28)) (A1 : Option Addr) (c1 : Nat) (l1 : List (S28)) (r : Bool) (w : World) (hr0 : Kd.C k28 w A0 l0.length l0) (hc0 : l0.length ≤ c0) (hr1 : Kd.C k28 w A1 l1.length l1) (hc1 : l1.length ≤ c1) (h : api_Column_164.f k l0 l1 = some r) :
    Calls Tryz.prog 164 #[.slice A0 l0.length c0, .slice A1 l1.length c1] w fun e w' => e = .returned (.bool r) ∧ Drawn0 w w' := by
  have hu28 := Tryz.underlying28
  have HR0 := Aside0.mk hr0
  have HC0 := Aside0.mk hc0
  clear hr0 hc0
  have HR1 := Aside0.mk hr1
  have HC1 := Aside0.mk hc1
  clear hr1 hc1
  have H : (if (l0.length : Int) = (l1.length : Int) then (api_Column_164.l0 k l0 l1 (l0.length : Int) 0) else (some false)) = some r := h
  clear h
  by_cases c3 : (l0.length : Int) = (l1.length : Int)
  · rw [if_pos c3] at H
    have c3b0 : ((l0.length : Int) == (l1.length : Int)) = true := beq_iff_eq.mpr c3
    have c3b1 : ((l0.length : Int) != (l1.length : Int)) = false := bne_eq_false_iff_eq.mpr c3
    have c3b2 : (l0.length == l1.length) = true := by first | simpa using c3 | (simp at c3 ⊢; omega)
    clear c3
    have H' := Aside0.mk H
    clear H
    go_enter Tryz.func164, Tryz.ntmps164
    go_wp2
    repeat (go_quiet (fail); try go_wp2)
    go_loopg [13] k (fun kq v13 w' => ∃ (x13_1 : Int), v13 = .int .i64 x13_1 ∧ Aside0 (api_Column_164.l0 kq l0 l1 (l0.length : Int) x13_1 = some r) ∧ Aside0 (kq ≤ k) ∧ Drawn0 w w')
    case atStart => exact ⟨(0), (by first | rfl | (simp; done) | (simp [*]; done)), H', ⟨Nat.le_refl _⟩, by repeat (first | exact Drawn0.refl _ | apply Drawn0.step)⟩
    case round =>
      clear H'
      try clear c1
      try clear p2
      try clear c3
      try clear c3b0
      try clear c3b1
      try clear c3b2
      obtain ⟨x13_1, rfl, HA, HK1, ⟨m1, rfl⟩⟩ := hrel
      cases gk with
      | zero => exact absurd HA.out (by simp [api_Column_164.l0])
      | succ k1 =>
        have H := HA.out
        clear HA
        simp only [api_Column_164.l0] at H
        by_cases c4 : x13_1 < (l0.length : Int)
        · rw [if_pos c4] at H
          have c4b0 : decide (x13_1 < (l0.length : Int)) = true := decide_eq_true c4
          clear c4
          by_cases c5 : 0 ≤ x13_1
          · rw [if_pos c5] at H
            have c5b0 : decide (0 ≤ x13_1) = true := decide_eq_true c5
            clear c5
            by_cases c6 : x13_1 < (l0.length : Int)
            · rw [if_pos c6] at H
              have c6b0 : decide (x13_1 < (l0.length : Int)) = true := decide_eq_true c6
              clear c6
              by_cases c7 : x13_1 < (l1.length : Int)
              · rw [if_pos c7] at H
                have c7b0 : decide (x13_1 < (l1.length : Int)) = true := decide_eq_true c7
                clear c7
                by_cases c8 : (!((((rd_T28 l0 x13_1).f0).toList) == (((rd_T28 l1 x13_1).f0).toList)) || (!(((rd_T28 l0 x13_1).f1) == ((rd_T28 l1 x13_1).f1)) || (!(((rd_T28 l0 x13_1).f2) == ((rd_T28 l1 x13_1).f2))))) = true
                · rw [if_pos c8] at H
                  have c8b0 : (!((((rd_T28 l0 x13_1).f0).toList) == (((rd_T28 l1 x13_1).f0).toList)) || (!(((rd_T28 l0 x13_1).f1) == ((rd_T28 l1 x13_1).f1)) || (!(((rd_T28 l0 x13_1).f2) == ((rd_T28 l1 x13_1).f2))))) = true := c8
                  clear c8
                  obtain rfl := Option.some.inj H
                  have p138 : 0 ≤ (x13_1 : Int) := of_decide_eq_true (by first | (with_reducible assumption) | assumption)
                  have q138 : x13_1 < (l0.length : Int) := of_decide_eq_true (by first | (with_reducible assumption) | assumption)
                  obtain ⟨ad138, e138, hx138_0, hx138_1, hx138_2⟩ := at_T28 HR0.out x13_1 p138 q138
                  cases e138
                  replace p138 := eq_true p138
                  replace q138 := eq_true q138
                  have p139 : 0 ≤ (x13_1 : Int) := of_decide_eq_true (by first | (with_reducible assumption) | assumption)
                  have q139 : x13_1 < (l1.length : Int) := of_decide_eq_true (by first | (with_reducible assumption) | assumption)
                  obtain ⟨ad139, e139, hx139_0, hx139_1, hx139_2⟩ := at_T28 HR1.out x13_1 p139 q139
                  cases e139
                  replace p139 := eq_true p139
                  replace q139 := eq_true q139
                  go_wp2
                  repeat (go_quiet (fail); try go_wp2)
                  go_ret
                  exact ⟨by first | rfl | (simp; done) | (simp [*]; done), by repeat (first | exact Drawn0.refl _ | apply Drawn0.step)⟩
                · rw [if_neg c8] at H
                  have c8b0 : (!((((rd_T28 l0 x13_1).f0).toList) == (((rd_T28 l1 x13_1).f0).toList)) || (!(((rd_T28 l0 x13_1).f1) == ((rd_T28 l1 x13_1).f1)) || (!(((rd_T28 l0 x13_1).f2) == ((rd_T28 l1 x13_1).f2))))) = false := by simpa using c8
                  clear c8
                  have H' := Aside0.mk H
                  clear H
                  have p138 : 0 ≤ (x13_1 : Int) := of_decide_eq_true (by first | (with_reducible assumption) | assumption)
                  have q138 : x13_1 < (l0.length : Int) := of_decide_eq_true (by first | (with_reducible assumption) | assumption)
                  obtain ⟨ad138, e138, hx138_0, hx138_1, hx138_2⟩ := at_T28 HR0.out x13_1 p138 q138
                  cases e138
                  replace p138 := eq_true p138
                  replace q138 := eq_true q138
                  have p139 : 0 ≤ (x13_1 : Int) := of_decide_eq_true (by first | (with_reducible assumption) | assumption)
                  have q139 : x13_1 < (l1.length : Int) := of_decide_eq_true (by first | (with_reducible assumption) | assumption)
                  obtain ⟨ad139, e139, hx139_0, hx139_1, hx139_2⟩ := at_T28 HR1.out x13_1 p139 q139
                  cases e139
                  replace p139 := eq_true p139
                  replace q139 := eq_true q139
                  go_wp2
                  repeat (go_quiet (fail); try go_wp2)
                  go_roundg k1
                  case measure => have := HK1.out; omega
                  case rel => exact ⟨(wrap64 (x13_1 + 1)), (by first | rfl | (simp; done) | (simp [*]; done)), H', ⟨by have := HK1.out; omega⟩, by repeat (first | exact Drawn0.refl _ | apply Drawn0.step)⟩
              · rw [if_neg c7] at H
                exact absurd H (by simp)
            · rw [if_neg c6] at H
              exact absurd H (by simp)
          · rw [if_neg c5] at H
            exact absurd H (by simp)
        · rw [if_neg c4] at H
          have c4b0 : decide (x13_1 < (l0.length : Int)) = false := decide_eq_false c4
          clear c4
          obtain rfl := Option.some.inj H
          go_wp2
          repeat (go_quiet (fail); try go_wp2)
          go_ret
          exact ⟨by first | rfl | (simp; done) | (simp [*]; done), by repeat (first | exact Drawn0.refl _ | apply Drawn0.step)⟩
  · rw [if_neg c3] at H
    have c3b0 : ((l0.length : Int) == (l1.length : Int)) = false := beq_eq_false_iff_ne.mpr c3
    have c3b1 : ((l0.length : Int) != (l1.length : Int)) = true := bne_iff_ne.mpr c3
    have c3b2 : (l0.length == l1.length) = false := by first | simpa using c3 | (simp at c3 ⊢; omega)
    obtain rfl := Option.some.inj H
    go_enter Tryz.func164, Tryz.ntmps164
    go_wp2
    repeat (go_quiet (fail); try go_wp2)
    go_ret
    exact ⟨by first | rfl | (simp; done) | (simp [*]; done), by repeat (first | exact Drawn0.refl _ | apply Drawn0.step)⟩

/-! ### schema_Same: function 136 -/
def schema_Same.f (k : Nat) (l0_0 : List (S28)) (a0_1 : Int) (l1_0 : List (S28)) (a1_1 : Int) : Option (Bool) := if a0_1 = a1_1 then ((api_Column_164.f k l0_0 l1_0).bind fun t142 => (some t142)) else (some false)
theorem schema_Same.mono : ∀ a0 a1 a2 a3 k, LeO (schema_Same.f k a0 a1 a2 a3) (schema_Same.f (k + 1) a0 a1 a2 a3) := by
  intro a0 a1 a2 a3 k
  unfold schema_Same.f
  repeat' first
      | (with_reducible exact api_Column_164.mono _ _ _)
      | (with_reducible exact LeO.refl _)
      | (with_reducible exact LeO.none _)
      | (with_reducible refine LeO.ite ?_ ?_)
      | (with_reducible refine LeO.bind ?_ (fun _ => ?_))
      | exact api_Column_164.mono _ _ _
      | exact LeO.none _
      | refine LeO.ite ?_ ?_
      | refine LeO.bind ?_ (fun _ => ?_)
set_option maxHeartbeats 8000000 in
set_option maxRecDepth 100000 in
theorem schema_Same.calls (k : Nat) (A0_0 : Option Addr) (c0_0 : Nat) (l0_0 : List (S28)) (a0_1 : Int) (A1_0 : Option Addr) (c1_0 : Nat) (l1_0 : List (S28)) (a1_1 : Int) (r : Bool) (w : World) (hr0_0 : Kd.C k28 w A0_0 l0_0.length l0_0) (hc0_0 : l0_0.length ≤ c0_0) (hr1_0 : Kd.C k28 w A1_0 l1_0.length l1_0) (hc1_0 : l1_0.length ≤ c1_0) (h : schema_Same.f k l0_0 a0_1 l1_0 a1_1 = some r) :
    Calls Tryz.prog 136 #[.agg #[.slice A0_0 l0_0.length c0_0, .int .i64 a0_1], .agg #[.slice A1_0 l1_0.length c1_0, .int .i64 a1_1]] w fun e w' => e = .returned (.bool r) ∧ Below w.heap.size w w' := by
  have hu26 := Tryz.underlying26
  have HR0_0 := Aside0.mk hr0_0
  have HC0_0 := Aside0.mk hc0_0
  clear hr0_0 hc0_0
  have HR1_0 := Aside0.mk hr1_0
  have HC1_0 := Aside0.mk hc1_0
  clear hr1_0 hc1_0
  have HB := Aside0.mk (Below.refl w.heap.size w)
  have H : (if a0_1 = a1_1 then ((api_Column_164.f k l0_0 l1_0).bind fun t142 => (some t142)) else (some false)) = some r := h
  clear h
  by_cases c3 : a0_1 = a1_1
  · rw [if_pos c3] at H
    have c3b0 : (a0_1 == a1_1) = true := beq_iff_eq.mpr c3
    have c3b1 : (a0_1 != a1_1) = false := bne_eq_false_iff_eq.mpr c3
    clear c3
    replace H := Option.bind_eq_some_iff.mp H
    obtain ⟨t142, A40, H⟩ := H
    replace H : (some t142) = some r := H
    have A4 := Aside0.mk A40
    clear A40
    obtain rfl := Option.some.inj H
    go_enter Tryz.func136, Tryz.ntmps136
    go_wp2_with (first | ((with_reducible refine gate_dst (N := 2) rfl ?_); refine box_event ?hg (N := 2) ?hd (cs := #[.slice A0_0 l0_0.length c0_0, .int .i64 a0_1]) (t := 26) ?hr ?_; (case hd => rfl); (case hg => rfl); (case hr => first | (go_simp; done) | (go_simp; rfl)); intro gb140 hg w5 hbox hb; have n0_ := Aside0.mk (below_step (by repeat (first | (with_reducible first | exact HB.out | apply below_alloc | apply pw_below_drewN | apply below_drew1) | exact HB.out)) hb); have n1_ := Aside0.mk (hbox); have n2_ := Aside0.mk ((by rw [hg]; exact (below_size (by repeat (first | (with_reducible first | exact HB.out | apply below_alloc | apply pw_below_drewN | apply below_drew1) | exact HB.out))) : w.heap.size ≤ gb140)); have n3_ := Aside0.mk ((by rw [hg]; exact (below_size (by repeat (first | (with_reducible first | exact HB.out | apply below_alloc | apply pw_below_drewN | apply below_drew1) | exact HB.out))) : w.heap.size ≤ gb140)); clear HB; have HB := n0_; have BK140 := n1_; have GW140 := n2_; have GE140 := n3_; clear n0_ n1_ n2_ n3_; clear hb hbox hg) | ((with_reducible refine gate_dst (N := 3) rfl ?_); refine box_event ?hg (N := 3) ?hd (cs := #[.slice A1_0 l1_0.length c1_0, .int .i64 a1_1]) (t := 26) ?hr ?_; (case hd => rfl); (case hg => rfl); (case hr => first | (go_simp; done) | (go_simp; rfl)); intro gb141 hg w6 hbox hb; have n0_ := Aside0.mk (blk_below (g := gb140) (o := .cells #[.slice A0_0 l0_0.length c0_0, .int .i64 a0_1] 26 (0, 0)) (by (with_reducible repeat (first | refine blk_drewN ?_ _ | refine blk_drew ?_ | refine blk_alloc ?_ _)); exact BK140.out) hb); have n1_ := Aside0.mk (below_step (by repeat (first | (with_reducible first | exact HB.out | apply below_alloc | apply pw_below_drewN | apply below_drew1 | refine below_set ?_ GE140.out) | exact HB.out)) hb); have n2_ := Aside0.mk (hbox); have n3_ := Aside0.mk ((by rw [hg]; exact (below_size (by repeat (first | (with_reducible first | exact HB.out | apply below_alloc | apply pw_below_drewN | apply below_drew1 | refine below_set ?_ GE140.out) | exact HB.out))) : w.heap.size ≤ gb141)); have n4_ := Aside0.mk ((by rw [hg]; exact (below_size (by repeat (first | (with_reducible first | exact HB.out | apply below_alloc | apply pw_below_drewN | apply below_drew1 | refine below_set ?_ GE140.out) | exact HB.out))) : w.heap.size ≤ gb141)); have n5_ := Aside0.mk ((by rw [hg]; exact Nat.ne_of_lt (blk_lt (g := gb140) (o := .cells #[.slice A0_0 l0_0.length c0_0, .int .i64 a0_1] 26 (0, 0)) (by (with_reducible repeat (first | refine blk_drewN ?_ _ | refine blk_drew ?_ | refine blk_alloc ?_ _)); exact BK140.out)) : gb140 ≠ gb141)); have n6_ := Aside0.mk ((by rw [hg]; exact Nat.ne_of_gt (blk_lt (g := gb140) (o := .cells #[.slice A0_0 l0_0.length c0_0, .int .i64 a0_1] 26 (0, 0)) (by (with_reducible repeat (first | refine blk_drewN ?_ _ | refine blk_drew ?_ | refine blk_alloc ?_ _)); exact BK140.out)) : gb141 ≠ gb140)); clear BK140; clear HB; have BK140 := n0_; have HB := n1_; have BK141 := n2_; have GW141 := n3_; have GE141 := n4_; have NB140_141 := n5_; have NB141_140 := n6_; clear n0_ n1_ n2_ n3_ n4_ n5_ n6_; clear hb hbox hg; have hnb7 := NB140_141.out; have hnc7 := NB141_140.out; have hcz8_0 : w6.cell? ⟨gb140, 0, none⟩ = some (.slice A0_0 l0_0.length c0_0) := (blk_cell BK140.out 0).trans rfl; have hcz8_1 : w6.cell? ⟨gb140, 1, none⟩ = some (.int .i64 a0_1) := (blk_cell BK140.out 1).trans rfl; have hfz8_0 := blk_frozen BK140.out 0; have hfz8_1 := blk_frozen BK140.out 1; have hcz9_0 : w6.cell? ⟨gb141, 0, none⟩ = some (.slice A1_0 l1_0.length c1_0) := (blk_cell BK141.out 0).trans rfl; have hcz9_1 : w6.cell? ⟨gb141, 1, none⟩ = some (.int .i64 a1_1) := (blk_cell BK141.out 1).trans rfl; have hfz9_0 := blk_frozen BK141.out 0; have hfz9_1 := blk_frozen BK141.out 1) | (go_at_call 164; (with_reducible refine (api_Column_164.calls k _ _ l0_0 _ _ l1_0 t142 _ ?side1 ?side2 ?side3 ?side4 A4.out).mono ?_); (case side1 => repeat (first | exact (Kd.C_below HR0_0.out HB.out) | (with_reducible refine Kd.C_alloc ?_ _) | (with_reducible refine Kd.C_drewN ?_ _) | (with_reducible refine Kd.C_drew ?_))); (case side2 => exact HC0_0.out); (case side3 => repeat (first | exact (Kd.C_below HR1_0.out HB.out) | (with_reducible refine Kd.C_alloc ?_ _) | (with_reducible refine Kd.C_drewN ?_ _) | (with_reducible refine Kd.C_drew ?_))); (case side4 => exact HC1_0.out); rintro e w' ⟨rfl, ⟨nd, rfl⟩⟩))
    go_ret
    exact ⟨by first | rfl | (simp [errW_none, errW_some] <;> rfl) | (simp [*, errW_none, errW_some] <;> rfl), by repeat (first | (with_reducible first | exact HB.out | apply below_alloc | apply pw_below_drewN | apply below_drew1 | refine below_set ?_ GE140.out | refine below_set ?_ GE141.out) | exact HB.out)⟩
  · rw [if_neg c3] at H
    have c3b0 : (a0_1 == a1_1) = false := beq_eq_false_iff_ne.mpr c3
    have c3b1 : (a0_1 != a1_1) = true := bne_iff_ne.mpr c3
    obtain rfl := Option.some.inj H
    go_enter Tryz.func136, Tryz.ntmps136
    go_wp2_with (first | ((with_reducible refine gate_dst (N := 2) rfl ?_); refine box_event ?hg (N := 2) ?hd (cs := #[.slice A0_0 l0_0.length c0_0, .int .i64 a0_1]) (t := 26) ?hr ?_; (case hd => rfl); (case hg => rfl); (case hr => first | (go_simp; done) | (go_simp; rfl)); intro gb140 hg w10 hbox hb; have n0_ := Aside0.mk (below_step (by repeat (first | (with_reducible first | exact HB.out | apply below_alloc | apply pw_below_drewN | apply below_drew1) | exact HB.out)) hb); have n1_ := Aside0.mk (hbox); have n2_ := Aside0.mk ((by rw [hg]; exact (below_size (by repeat (first | (with_reducible first | exact HB.out | apply below_alloc | apply pw_below_drewN | apply below_drew1) | exact HB.out))) : w.heap.size ≤ gb140)); have n3_ := Aside0.mk ((by rw [hg]; exact (below_size (by repeat (first | (with_reducible first | exact HB.out | apply below_alloc | apply pw_below_drewN | apply below_drew1) | exact HB.out))) : w.heap.size ≤ gb140)); clear HB; have HB := n0_; have BK140 := n1_; have GW140 := n2_; have GE140 := n3_; clear n0_ n1_ n2_ n3_; clear hb hbox hg) | ((with_reducible refine gate_dst (N := 3) rfl ?_); refine box_event ?hg (N := 3) ?hd (cs := #[.slice A1_0 l1_0.length c1_0, .int .i64 a1_1]) (t := 26) ?hr ?_; (case hd => rfl); (case hg => rfl); (case hr => first | (go_simp; done) | (go_simp; rfl)); intro gb141 hg w11 hbox hb; have n0_ := Aside0.mk (blk_below (g := gb140) (o := .cells #[.slice A0_0 l0_0.length c0_0, .int .i64 a0_1] 26 (0, 0)) (by (with_reducible repeat (first | refine blk_drewN ?_ _ | refine blk_drew ?_ | refine blk_alloc ?_ _)); exact BK140.out) hb); have n1_ := Aside0.mk (below_step (by repeat (first | (with_reducible first | exact HB.out | apply below_alloc | apply pw_below_drewN | apply below_drew1 | refine below_set ?_ GE140.out) | exact HB.out)) hb); have n2_ := Aside0.mk (hbox); have n3_ := Aside0.mk ((by rw [hg]; exact (below_size (by repeat (first | (with_reducible first | exact HB.out | apply below_alloc | apply pw_below_drewN | apply below_drew1 | refine below_set ?_ GE140.out) | exact HB.out))) : w.heap.size ≤ gb141)); have n4_ := Aside0.mk ((by rw [hg]; exact (below_size (by repeat (first | (with_reducible first | exact HB.out | apply below_alloc | apply pw_below_drewN | apply below_drew1 | refine below_set ?_ GE140.out) | exact HB.out))) : w.heap.size ≤ gb141)); have n5_ := Aside0.mk ((by rw [hg]; exact Nat.ne_of_lt (blk_lt (g := gb140) (o := .cells #[.slice A0_0 l0_0.length c0_0, .int .i64 a0_1] 26 (0, 0)) (by (with_reducible repeat (first | refine blk_drewN ?_ _ | refine blk_drew ?_ | refine blk_alloc ?_ _)); exact BK140.out)) : gb140 ≠ gb141)); have n6_ := Aside0.mk ((by rw [hg]; exact Nat.ne_of_gt (blk_lt (g := gb140) (o := .cells #[.slice A0_0 l0_0.length c0_0, .int .i64 a0_1] 26 (0, 0)) (by (with_reducible repeat (first | refine blk_drewN ?_ _ | refine blk_drew ?_ | refine blk_alloc ?_ _)); exact BK140.out)) : gb141 ≠ gb140)); clear BK140; clear HB; have BK140 := n0_; have HB := n1_; have BK141 := n2_; have GW141 := n3_; have GE141 := n4_; have NB140_141 := n5_; have NB141_140 := n6_; clear n0_ n1_ n2_ n3_ n4_ n5_ n6_; clear hb hbox hg; have hnb12 := NB140_141.out; have hnc12 := NB141_140.out; have hcz13_0 : w11.cell? ⟨gb140, 0, none⟩ = some (.slice A0_0 l0_0.length c0_0) := (blk_cell BK140.out 0).trans rfl; have hcz13_1 : w11.cell? ⟨gb140, 1, none⟩ = some (.int .i64 a0_1) := (blk_cell BK140.out 1).trans rfl; have hfz13_0 := blk_frozen BK140.out 0; have hfz13_1 := blk_frozen BK140.out 1; have hcz14_0 : w11.cell? ⟨gb141, 0, none⟩ = some (.slice A1_0 l1_0.length c1_0) := (blk_cell BK141.out 0).trans rfl; have hcz14_1 : w11.cell? ⟨gb141, 1, none⟩ = some (.int .i64 a1_1) := (blk_cell BK141.out 1).trans rfl; have hfz14_0 := blk_frozen BK141.out 0; have hfz14_1 := blk_frozen BK141.out 1))
    go_ret
    exact ⟨by first | rfl | (simp [errW_none, errW_some] <;> rfl) | (simp [*, errW_none, errW_some] <;> rfl), by repeat (first | (with_reducible first | exact HB.out | apply below_alloc | apply pw_below_drewN | apply below_drew1 | refine below_set ?_ GE140.out | refine below_set ?_ GE141.out) | exact HB.out)⟩

/-! ### event_same: function 108 -/
def event_same.f (k : Nat) (a0_0 : Int) (a0_1 : ByteArray) (l0_2 : List (S28)) (a0_3 : Int) (a0_4 : ByteArray) (a0_5 : Int) (a0_6 : Bool) (a1_0 : Int) (a1_1 : ByteArray) (l1_2 : List (S28)) (a1_3 : Int) (a1_4 : ByteArray) (a1_5 : Int) (a1_6 : Bool) : Option (Bool) := if a0_0 = a1_0 then (if a0_1.toList = a1_1.toList then (if (a0_4.toList == a1_4.toList && (a0_5 == a1_5 && (a0_6 == a1_6))) = true then ((schema_Same.f k l0_2 a0_3 l1_2 a1_3).bind fun t145 => (some t145)) else (some false)) else (some false)) else (some false)
theorem event_same.mono : ∀ a0 a1 a2 a3 a4 a5 a6 a7 a8 a9 a10 a11 a12 a13 k, LeO (event_same.f k a0 a1 a2 a3 a4 a5 a6 a7 a8 a9 a10 a11 a12 a13) (event_same.f (k + 1) a0 a1 a2 a3 a4 a5 a6 a7 a8 a9 a10 a11 a12 a13) := by
  intro a0 a1 a2 a3 a4 a5 a6 a7 a8 a9 a10 a11 a12 a13 k
  unfold event_same.f
  repeat' first
      | (with_reducible exact schema_Same.mono _ _ _ _ _)
      | (with_reducible exact LeO.refl _)
      | (with_reducible exact LeO.none _)
      | (with_reducible refine LeO.ite ?_ ?_)
      | (with_reducible refine LeO.bind ?_ (fun _ => ?_))
      | exact schema_Same.mono _ _ _ _ _
      | exact LeO.none _
      | refine LeO.ite ?_ ?_
      | refine LeO.bind ?_ (fun _ => ?_)
set_option maxHeartbeats 8000000 in
set_option maxRecDepth 100000 in
theorem event_same.calls (k : Nat) (a0_0 : Int) (a0_1 : ByteArray) (A0_2 : Option Addr) (c0_2 : Nat) (l0_2 : List (S28)) (a0_3 : Int) (a0_4 : ByteArray) (a0_5 : Int) (a0_6 : Bool) (a1_0 : Int) (a1_1 : ByteArray) (A1_2 : Option Addr) (c1_2 : Nat) (l1_2 : List (S28)) (a1_3 : Int) (a1_4 : ByteArray) (a1_5 : Int) (a1_6 : Bool) (r : Bool) (w : World) (hr0_2 : Kd.C k28 w A0_2 l0_2.length l0_2) (hc0_2 : l0_2.length ≤ c0_2) (hr1_2 : Kd.C k28 w A1_2 l1_2.length l1_2) (hc1_2 : l1_2.length ≤ c1_2) (h : event_same.f k a0_0 a0_1 l0_2 a0_3 a0_4 a0_5 a0_6 a1_0 a1_1 l1_2 a1_3 a1_4 a1_5 a1_6 = some r) :
    Calls Tryz.prog 108 #[.agg #[.int .i64 a0_0, .string a0_1, .slice A0_2 l0_2.length c0_2, .int .i64 a0_3, .string a0_4, .int .i64 a0_5, .bool a0_6], .agg #[.int .i64 a1_0, .string a1_1, .slice A1_2 l1_2.length c1_2, .int .i64 a1_3, .string a1_4, .int .i64 a1_5, .bool a1_6]] w fun e w' => e = .returned (.bool r) ∧ Below w.heap.size w w' := by
  have hu30 := Tryz.underlying30
  have hu28 := Tryz.underlying28
  have hu26 := Tryz.underlying26
  have HR0_2 := Aside0.mk hr0_2
  have HC0_2 := Aside0.mk hc0_2
  clear hr0_2 hc0_2
  have HR1_2 := Aside0.mk hr1_2
  have HC1_2 := Aside0.mk hc1_2
  clear hr1_2 hc1_2
  have HB := Aside0.mk (Below.refl w.heap.size w)
  have H : (if a0_0 = a1_0 then (if a0_1.toList = a1_1.toList then (if (a0_4.toList == a1_4.toList && (a0_5 == a1_5 && (a0_6 == a1_6))) = true then ((schema_Same.f k l0_2 a0_3 l1_2 a1_3).bind fun t145 => (some t145)) else (some false)) else (some false)) else (some false)) = some r := h
  clear h
  by_cases c3 : a0_0 = a1_0
  · rw [if_pos c3] at H
    have c3b0 : (a0_0 == a1_0) = true := beq_iff_eq.mpr c3
    have c3b1 : (a0_0 != a1_0) = false := bne_eq_false_iff_eq.mpr c3
    clear c3
    by_cases c4 : a0_1.toList = a1_1.toList
    · rw [if_pos c4] at H
      have c4b0 : (a0_1.toList == a1_1.toList) = true := beq_iff_eq.mpr c4
      have c4b1 : (a0_1.toList != a1_1.toList) = false := bne_eq_false_iff_eq.mpr c4
      clear c4
      by_cases c5 : (a0_4.toList == a1_4.toList && (a0_5 == a1_5 && (a0_6 == a1_6))) = true
      · rw [if_pos c5] at H
        have c5b0 : (a0_4.toList == a1_4.toList && (a0_5 == a1_5 && (a0_6 == a1_6))) = true := c5
        (try (have c5b1 : decide (a0_4.toList = a1_4.toList && (a0_5 == a1_5 && (a0_6 == a1_6))) = true := by simpa using c5))
        (try (have c5b2 : (a0_4.toList == a1_4.toList && (a0_5 == a1_5 && (a0_6 == a1_6))) = true := by simpa using c5))
        clear c5
        replace H := Option.bind_eq_some_iff.mp H
        obtain ⟨t145, A60, H⟩ := H
        replace H : (some t145) = some r := H
        have A6 := Aside0.mk A60
        clear A60
        obtain rfl := Option.some.inj H
        go_enter Tryz.func108, Tryz.ntmps108
        go_wp2_with (first | ((with_reducible refine gate_dst (N := 2) rfl ?_); refine box_event ?hg (N := 2) ?hd (cs := #[.int .i64 a0_0, .string a0_1, .slice A0_2 l0_2.length c0_2, .int .i64 a0_3, .string a0_4, .int .i64 a0_5, .bool a0_6]) (t := 30) ?hr ?_; (case hd => rfl); (case hg => rfl); (case hr => first | (go_simp; done) | (go_simp; rfl)); intro gb143 hg w7 hbox hb; have n0_ := Aside0.mk (below_step (by repeat (first | (with_reducible first | exact HB.out | apply below_alloc | apply pw_below_drewN | apply below_drew1) | exact HB.out)) hb); have n1_ := Aside0.mk (hbox); have n2_ := Aside0.mk ((by rw [hg]; exact (below_size (by repeat (first | (with_reducible first | exact HB.out | apply below_alloc | apply pw_below_drewN | apply below_drew1) | exact HB.out))) : w.heap.size ≤ gb143)); have n3_ := Aside0.mk ((by rw [hg]; exact (below_size (by repeat (first | (with_reducible first | exact HB.out | apply below_alloc | apply pw_below_drewN | apply below_drew1) | exact HB.out))) : w.heap.size ≤ gb143)); clear HB; have HB := n0_; have BK143 := n1_; have GW143 := n2_; have GE143 := n3_; clear n0_ n1_ n2_ n3_; clear hb hbox hg) | ((with_reducible refine gate_dst (N := 3) rfl ?_); refine box_event ?hg (N := 3) ?hd (cs := #[.int .i64 a1_0, .string a1_1, .slice A1_2 l1_2.length c1_2, .int .i64 a1_3, .string a1_4, .int .i64 a1_5, .bool a1_6]) (t := 30) ?hr ?_; (case hd => rfl); (case hg => rfl); (case hr => first | (go_simp; done) | (go_simp; rfl)); intro gb144 hg w8 hbox hb; have n0_ := Aside0.mk (blk_below (g := gb143) (o := .cells #[.int .i64 a0_0, .string a0_1, .slice A0_2 l0_2.length c0_2, .int .i64 a0_3, .string a0_4, .int .i64 a0_5, .bool a0_6] 30 (0, 0)) (by (with_reducible repeat (first | refine blk_drewN ?_ _ | refine blk_drew ?_ | refine blk_alloc ?_ _)); exact BK143.out) hb); have n1_ := Aside0.mk (below_step (by repeat (first | (with_reducible first | exact HB.out | apply below_alloc | apply pw_below_drewN | apply below_drew1 | refine below_set ?_ GE143.out) | exact HB.out)) hb); have n2_ := Aside0.mk (hbox); have n3_ := Aside0.mk ((by rw [hg]; exact (below_size (by repeat (first | (with_reducible first | exact HB.out | apply below_alloc | apply pw_below_drewN | apply below_drew1 | refine below_set ?_ GE143.out) | exact HB.out))) : w.heap.size ≤ gb144)); have n4_ := Aside0.mk ((by rw [hg]; exact (below_size (by repeat (first | (with_reducible first | exact HB.out | apply below_alloc | apply pw_below_drewN | apply below_drew1 | refine below_set ?_ GE143.out) | exact HB.out))) : w.heap.size ≤ gb144)); have n5_ := Aside0.mk ((by rw [hg]; exact Nat.ne_of_lt (blk_lt (g := gb143) (o := .cells #[.int .i64 a0_0, .string a0_1, .slice A0_2 l0_2.length c0_2, .int .i64 a0_3, .string a0_4, .int .i64 a0_5, .bool a0_6] 30 (0, 0)) (by (with_reducible repeat (first | refine blk_drewN ?_ _ | refine blk_drew ?_ | refine blk_alloc ?_ _)); exact BK143.out)) : gb143 ≠ gb144)); have n6_ := Aside0.mk ((by rw [hg]; exact Nat.ne_of_gt (blk_lt (g := gb143) (o := .cells #[.int .i64 a0_0, .string a0_1, .slice A0_2 l0_2.length c0_2, .int .i64 a0_3, .string a0_4, .int .i64 a0_5, .bool a0_6] 30 (0, 0)) (by (with_reducible repeat (first | refine blk_drewN ?_ _ | refine blk_drew ?_ | refine blk_alloc ?_ _)); exact BK143.out)) : gb144 ≠ gb143)); clear BK143; clear HB; have BK143 := n0_; have HB := n1_; have BK144 := n2_; have GW144 := n3_; have GE144 := n4_; have NB143_144 := n5_; have NB144_143 := n6_; clear n0_ n1_ n2_ n3_ n4_ n5_ n6_; clear hb hbox hg; have hnb9 := NB143_144.out; have hnc9 := NB144_143.out; have hcz10_0 : w8.cell? ⟨gb143, 0, none⟩ = some (.int .i64 a0_0) := (blk_cell BK143.out 0).trans rfl; have hcz10_1 : w8.cell? ⟨gb143, 1, none⟩ = some (.string a0_1) := (blk_cell BK143.out 1).trans rfl; have hcz10_2 : w8.cell? ⟨gb143, 2, none⟩ = some (.slice A0_2 l0_2.length c0_2) := (blk_cell BK143.out 2).trans rfl; have hcz10_3 : w8.cell? ⟨gb143, 3, none⟩ = some (.int .i64 a0_3) := (blk_cell BK143.out 3).trans rfl; have hcz10_4 : w8.cell? ⟨gb143, 4, none⟩ = some (.string a0_4) := (blk_cell BK143.out 4).trans rfl; have hcz10_5 : w8.cell? ⟨gb143, 5, none⟩ = some (.int .i64 a0_5) := (blk_cell BK143.out 5).trans rfl; have hcz10_6 : w8.cell? ⟨gb143, 6, none⟩ = some (.bool a0_6) := (blk_cell BK143.out 6).trans rfl; have hfz10_0 := blk_frozen BK143.out 0; have hfz10_1 := blk_frozen BK143.out 1; have hfz10_2 := blk_frozen BK143.out 2; have hfz10_3 := blk_frozen BK143.out 3; have hfz10_4 := blk_frozen BK143.out 4; have hfz10_5 := blk_frozen BK143.out 5; have hfz10_6 := blk_frozen BK143.out 6; have hcz11_0 : w8.cell? ⟨gb144, 0, none⟩ = some (.int .i64 a1_0) := (blk_cell BK144.out 0).trans rfl; have hcz11_1 : w8.cell? ⟨gb144, 1, none⟩ = some (.string a1_1) := (blk_cell BK144.out 1).trans rfl; have hcz11_2 : w8.cell? ⟨gb144, 2, none⟩ = some (.slice A1_2 l1_2.length c1_2) := (blk_cell BK144.out 2).trans rfl; have hcz11_3 : w8.cell? ⟨gb144, 3, none⟩ = some (.int .i64 a1_3) := (blk_cell BK144.out 3).trans rfl; have hcz11_4 : w8.cell? ⟨gb144, 4, none⟩ = some (.string a1_4) := (blk_cell BK144.out 4).trans rfl; have hcz11_5 : w8.cell? ⟨gb144, 5, none⟩ = some (.int .i64 a1_5) := (blk_cell BK144.out 5).trans rfl; have hcz11_6 : w8.cell? ⟨gb144, 6, none⟩ = some (.bool a1_6) := (blk_cell BK144.out 6).trans rfl; have hfz11_0 := blk_frozen BK144.out 0; have hfz11_1 := blk_frozen BK144.out 1; have hfz11_2 := blk_frozen BK144.out 2; have hfz11_3 := blk_frozen BK144.out 3; have hfz11_4 := blk_frozen BK144.out 4; have hfz11_5 := blk_frozen BK144.out 5; have hfz11_6 := blk_frozen BK144.out 6) | (go_at_call 136; (with_reducible refine (schema_Same.calls k _ _ l0_2 a0_3 _ _ l1_2 a1_3 t145 _ ?side1 ?side2 ?side3 ?side4 A6.out).mono ?_); (case side1 => repeat (first | exact (Kd.C_below HR0_2.out HB.out) | (with_reducible refine Kd.C_alloc ?_ _) | (with_reducible refine Kd.C_drewN ?_ _) | (with_reducible refine Kd.C_drew ?_))); (case side2 => exact HC0_2.out); (case side3 => repeat (first | exact (Kd.C_below HR1_2.out HB.out) | (with_reducible refine Kd.C_alloc ?_ _) | (with_reducible refine Kd.C_drewN ?_ _) | (with_reducible refine Kd.C_drew ?_))); (case side4 => exact HC1_2.out); rintro e w12 ⟨rfl, hb⟩; have n0_ := Aside0.mk (blk_below (g := gb143) (o := .cells #[.int .i64 a0_0, .string a0_1, .slice A0_2 l0_2.length c0_2, .int .i64 a0_3, .string a0_4, .int .i64 a0_5, .bool a0_6] 30 (0, 0)) (by (with_reducible repeat (first | refine blk_drewN ?_ _ | refine blk_drew ?_ | refine blk_alloc ?_ _)); exact BK143.out) hb); have n1_ := Aside0.mk (blk_below (g := gb144) (o := .cells #[.int .i64 a1_0, .string a1_1, .slice A1_2 l1_2.length c1_2, .int .i64 a1_3, .string a1_4, .int .i64 a1_5, .bool a1_6] 30 (0, 0)) (by (with_reducible repeat (first | refine blk_drewN ?_ _ | refine blk_drew ?_ | refine blk_alloc ?_ _)); exact BK144.out) hb); have n2_ := Aside0.mk (below_step (by repeat (first | (with_reducible first | exact HB.out | apply below_alloc | apply pw_below_drewN | apply below_drew1 | refine below_set ?_ GE143.out | refine below_set ?_ GE144.out) | exact HB.out)) hb); clear BK143; clear BK144; clear HB; have BK143 := n0_; have BK144 := n1_; have HB := n2_; clear n0_ n1_ n2_; (try clear hb); (try clear hb2); (try clear hk); (try clear hi)))
        go_ret
        exact ⟨by first | rfl | (simp [errW_none, errW_some] <;> rfl) | (simp [*, errW_none, errW_some] <;> rfl), by repeat (first | (with_reducible first | exact HB.out | apply below_alloc | apply pw_below_drewN | apply below_drew1 | refine below_set ?_ GE143.out | refine below_set ?_ GE144.out) | exact HB.out)⟩
      · rw [if_neg c5] at H
        have c5b0 : (a0_4.toList == a1_4.toList && (a0_5 == a1_5 && (a0_6 == a1_6))) = false := by simpa using c5
        (try (have c5b1 : decide (a0_4.toList = a1_4.toList && (a0_5 == a1_5 && (a0_6 == a1_6))) = false := by simpa using c5))
        (try (have c5b2 : (a0_4.toList == a1_4.toList && (a0_5 == a1_5 && (a0_6 == a1_6))) = false := by simpa using c5))
        (try (have c5b3 : ¬ (a0_4.toList = a1_4.toList && (a0_5 == a1_5 && (a0_6 == a1_6))) := by simpa using c5))
        clear c5
        obtain rfl := Option.some.inj H
        go_enter Tryz.func108, Tryz.ntmps108
        go_wp2_with (first | ((with_reducible refine gate_dst (N := 2) rfl ?_); refine box_event ?hg (N := 2) ?hd (cs := #[.int .i64 a0_0, .string a0_1, .slice A0_2 l0_2.length c0_2, .int .i64 a0_3, .string a0_4, .int .i64 a0_5, .bool a0_6]) (t := 30) ?hr ?_; (case hd => rfl); (case hg => rfl); (case hr => first | (go_simp; done) | (go_simp; rfl)); intro gb143 hg w13 hbox hb; have n0_ := Aside0.mk (below_step (by repeat (first | (with_reducible first | exact HB.out | apply below_alloc | apply pw_below_drewN | apply below_drew1) | exact HB.out)) hb); have n1_ := Aside0.mk (hbox); have n2_ := Aside0.mk ((by rw [hg]; exact (below_size (by repeat (first | (with_reducible first | exact HB.out | apply below_alloc | apply pw_below_drewN | apply below_drew1) | exact HB.out))) : w.heap.size ≤ gb143)); have n3_ := Aside0.mk ((by rw [hg]; exact (below_size (by repeat (first | (with_reducible first | exact HB.out | apply below_alloc | apply pw_below_drewN | apply below_drew1) | exact HB.out))) : w.heap.size ≤ gb143)); clear HB; have HB := n0_; have BK143 := n1_; have GW143 := n2_; have GE143 := n3_; clear n0_ n1_ n2_ n3_; clear hb hbox hg) | ((with_reducible refine gate_dst (N := 3) rfl ?_); refine box_event ?hg (N := 3) ?hd (cs := #[.int .i64 a1_0, .string a1_1, .slice A1_2 l1_2.length c1_2, .int .i64 a1_3, .string a1_4, .int .i64 a1_5, .bool a1_6]) (t := 30) ?hr ?_; (case hd => rfl); (case hg => rfl); (case hr => first | (go_simp; done) | (go_simp; rfl)); intro gb144 hg w14 hbox hb; have n0_ := Aside0.mk (blk_below (g := gb143) (o := .cells #[.int .i64 a0_0, .string a0_1, .slice A0_2 l0_2.length c0_2, .int .i64 a0_3, .string a0_4, .int .i64 a0_5, .bool a0_6] 30 (0, 0)) (by (with_reducible repeat (first | refine blk_drewN ?_ _ | refine blk_drew ?_ | refine blk_alloc ?_ _)); exact BK143.out) hb); have n1_ := Aside0.mk (below_step (by repeat (first | (with_reducible first | exact HB.out | apply below_alloc | apply pw_below_drewN | apply below_drew1 | refine below_set ?_ GE143.out) | exact HB.out)) hb); have n2_ := Aside0.mk (hbox); have n3_ := Aside0.mk ((by rw [hg]; exact (below_size (by repeat (first | (with_reducible first | exact HB.out | apply below_alloc | apply pw_below_drewN | apply below_drew1 | refine below_set ?_ GE143.out) | exact HB.out))) : w.heap.size ≤ gb144)); have n4_ := Aside0.mk ((by rw [hg]; exact (below_size (by repeat (first | (with_reducible first | exact HB.out | apply below_alloc | apply pw_below_drewN | apply below_drew1 | refine below_set ?_ GE143.out) | exact HB.out))) : w.heap.size ≤ gb144)); have n5_ := Aside0.mk ((by rw [hg]; exact Nat.ne_of_lt (blk_lt (g := gb143) (o := .cells #[.int .i64 a0_0, .string a0_1, .slice A0_2 l0_2.length c0_2, .int .i64 a0_3, .string a0_4, .int .i64 a0_5, .bool a0_6] 30 (0, 0)) (by (with_reducible repeat (first | refine blk_drewN ?_ _ | refine blk_drew ?_ | refine blk_alloc ?_ _)); exact BK143.out)) : gb143 ≠ gb144)); have n6_ := Aside0.mk ((by rw [hg]; exact Nat.ne_of_gt (blk_lt (g := gb143) (o := .cells #[.int .i64 a0_0, .string a0_1, .slice A0_2 l0_2.length c0_2, .int .i64 a0_3, .string a0_4, .int .i64 a0_5, .bool a0_6] 30 (0, 0)) (by (with_reducible repeat (first | refine blk_drewN ?_ _ | refine blk_drew ?_ | refine blk_alloc ?_ _)); exact BK143.out)) : gb144 ≠ gb143)); clear BK143; clear HB; have BK143 := n0_; have HB := n1_; have BK144 := n2_; have GW144 := n3_; have GE144 := n4_; have NB143_144 := n5_; have NB144_143 := n6_; clear n0_ n1_ n2_ n3_ n4_ n5_ n6_; clear hb hbox hg; have hnb15 := NB143_144.out; have hnc15 := NB144_143.out; have hcz16_0 : w14.cell? ⟨gb143, 0, none⟩ = some (.int .i64 a0_0) := (blk_cell BK143.out 0).trans rfl; have hcz16_1 : w14.cell? ⟨gb143, 1, none⟩ = some (.string a0_1) := (blk_cell BK143.out 1).trans rfl; have hcz16_2 : w14.cell? ⟨gb143, 2, none⟩ = some (.slice A0_2 l0_2.length c0_2) := (blk_cell BK143.out 2).trans rfl; have hcz16_3 : w14.cell? ⟨gb143, 3, none⟩ = some (.int .i64 a0_3) := (blk_cell BK143.out 3).trans rfl; have hcz16_4 : w14.cell? ⟨gb143, 4, none⟩ = some (.string a0_4) := (blk_cell BK143.out 4).trans rfl; have hcz16_5 : w14.cell? ⟨gb143, 5, none⟩ = some (.int .i64 a0_5) := (blk_cell BK143.out 5).trans rfl; have hcz16_6 : w14.cell? ⟨gb143, 6, none⟩ = some (.bool a0_6) := (blk_cell BK143.out 6).trans rfl; have hfz16_0 := blk_frozen BK143.out 0; have hfz16_1 := blk_frozen BK143.out 1; have hfz16_2 := blk_frozen BK143.out 2; have hfz16_3 := blk_frozen BK143.out 3; have hfz16_4 := blk_frozen BK143.out 4; have hfz16_5 := blk_frozen BK143.out 5; have hfz16_6 := blk_frozen BK143.out 6; have hcz17_0 : w14.cell? ⟨gb144, 0, none⟩ = some (.int .i64 a1_0) := (blk_cell BK144.out 0).trans rfl; have hcz17_1 : w14.cell? ⟨gb144, 1, none⟩ = some (.string a1_1) := (blk_cell BK144.out 1).trans rfl; have hcz17_2 : w14.cell? ⟨gb144, 2, none⟩ = some (.slice A1_2 l1_2.length c1_2) := (blk_cell BK144.out 2).trans rfl; have hcz17_3 : w14.cell? ⟨gb144, 3, none⟩ = some (.int .i64 a1_3) := (blk_cell BK144.out 3).trans rfl; have hcz17_4 : w14.cell? ⟨gb144, 4, none⟩ = some (.string a1_4) := (blk_cell BK144.out 4).trans rfl; have hcz17_5 : w14.cell? ⟨gb144, 5, none⟩ = some (.int .i64 a1_5) := (blk_cell BK144.out 5).trans rfl; have hcz17_6 : w14.cell? ⟨gb144, 6, none⟩ = some (.bool a1_6) := (blk_cell BK144.out 6).trans rfl; have hfz17_0 := blk_frozen BK144.out 0; have hfz17_1 := blk_frozen BK144.out 1; have hfz17_2 := blk_frozen BK144.out 2; have hfz17_3 := blk_frozen BK144.out 3; have hfz17_4 := blk_frozen BK144.out 4; have hfz17_5 := blk_frozen BK144.out 5; have hfz17_6 := blk_frozen BK144.out 6))
        go_ret
        exact ⟨by first | rfl | (simp [errW_none, errW_some] <;> rfl) | (simp [*, errW_none, errW_some] <;> rfl), by repeat (first | (with_reducible first | exact HB.out | apply below_alloc | apply pw_below_drewN | apply below_drew1 | refine below_set ?_ GE143.out | refine below_set ?_ GE144.out) | exact HB.out)⟩
    · rw [if_neg c4] at H
      have c4b0 : (a0_1.toList == a1_1.toList) = false := beq_eq_false_iff_ne.mpr c4
      have c4b1 : (a0_1.toList != a1_1.toList) = true := bne_iff_ne.mpr c4
      obtain rfl := Option.some.inj H
      go_enter Tryz.func108, Tryz.ntmps108
      go_wp2_with (first | ((with_reducible refine gate_dst (N := 2) rfl ?_); refine box_event ?hg (N := 2) ?hd (cs := #[.int .i64 a0_0, .string a0_1, .slice A0_2 l0_2.length c0_2, .int .i64 a0_3, .string a0_4, .int .i64 a0_5, .bool a0_6]) (t := 30) ?hr ?_; (case hd => rfl); (case hg => rfl); (case hr => first | (go_simp; done) | (go_simp; rfl)); intro gb143 hg w18 hbox hb; have n0_ := Aside0.mk (below_step (by repeat (first | (with_reducible first | exact HB.out | apply below_alloc | apply pw_below_drewN | apply below_drew1) | exact HB.out)) hb); have n1_ := Aside0.mk (hbox); have n2_ := Aside0.mk ((by rw [hg]; exact (below_size (by repeat (first | (with_reducible first | exact HB.out | apply below_alloc | apply pw_below_drewN | apply below_drew1) | exact HB.out))) : w.heap.size ≤ gb143)); have n3_ := Aside0.mk ((by rw [hg]; exact (below_size (by repeat (first | (with_reducible first | exact HB.out | apply below_alloc | apply pw_below_drewN | apply below_drew1) | exact HB.out))) : w.heap.size ≤ gb143)); clear HB; have HB := n0_; have BK143 := n1_; have GW143 := n2_; have GE143 := n3_; clear n0_ n1_ n2_ n3_; clear hb hbox hg) | ((with_reducible refine gate_dst (N := 3) rfl ?_); refine box_event ?hg (N := 3) ?hd (cs := #[.int .i64 a1_0, .string a1_1, .slice A1_2 l1_2.length c1_2, .int .i64 a1_3, .string a1_4, .int .i64 a1_5, .bool a1_6]) (t := 30) ?hr ?_; (case hd => rfl); (case hg => rfl); (case hr => first | (go_simp; done) | (go_simp; rfl)); intro gb144 hg w19 hbox hb; have n0_ := Aside0.mk (blk_below (g := gb143) (o := .cells #[.int .i64 a0_0, .string a0_1, .slice A0_2 l0_2.length c0_2, .int .i64 a0_3, .string a0_4, .int .i64 a0_5, .bool a0_6] 30 (0, 0)) (by (with_reducible repeat (first | refine blk_drewN ?_ _ | refine blk_drew ?_ | refine blk_alloc ?_ _)); exact BK143.out) hb); have n1_ := Aside0.mk (below_step (by repeat (first | (with_reducible first | exact HB.out | apply below_alloc | apply pw_below_drewN | apply below_drew1 | refine below_set ?_ GE143.out) | exact HB.out)) hb); have n2_ := Aside0.mk (hbox); have n3_ := Aside0.mk ((by rw [hg]; exact (below_size (by repeat (first | (with_reducible first | exact HB.out | apply below_alloc | apply pw_below_drewN | apply below_drew1 | refine below_set ?_ GE143.out) | exact HB.out))) : w.heap.size ≤ gb144)); have n4_ := Aside0.mk ((by rw [hg]; exact (below_size (by repeat (first | (with_reducible first | exact HB.out | apply below_alloc | apply pw_below_drewN | apply below_drew1 | refine below_set ?_ GE143.out) | exact HB.out))) : w.heap.size ≤ gb144)); have n5_ := Aside0.mk ((by rw [hg]; exact Nat.ne_of_lt (blk_lt (g := gb143) (o := .cells #[.int .i64 a0_0, .string a0_1, .slice A0_2 l0_2.length c0_2, .int .i64 a0_3, .string a0_4, .int .i64 a0_5, .bool a0_6] 30 (0, 0)) (by (with_reducible repeat (first | refine blk_drewN ?_ _ | refine blk_drew ?_ | refine blk_alloc ?_ _)); exact BK143.out)) : gb143 ≠ gb144)); have n6_ := Aside0.mk ((by rw [hg]; exact Nat.ne_of_gt (blk_lt (g := gb143) (o := .cells #[.int .i64 a0_0, .string a0_1, .slice A0_2 l0_2.length c0_2, .int .i64 a0_3, .string a0_4, .int .i64 a0_5, .bool a0_6] 30 (0, 0)) (by (with_reducible repeat (first | refine blk_drewN ?_ _ | refine blk_drew ?_ | refine blk_alloc ?_ _)); exact BK143.out)) : gb144 ≠ gb143)); clear BK143; clear HB; have BK143 := n0_; have HB := n1_; have BK144 := n2_; have GW144 := n3_; have GE144 := n4_; have NB143_144 := n5_; have NB144_143 := n6_; clear n0_ n1_ n2_ n3_ n4_ n5_ n6_; clear hb hbox hg; have hnb20 := NB143_144.out; have hnc20 := NB144_143.out; have hcz21_0 : w19.cell? ⟨gb143, 0, none⟩ = some (.int .i64 a0_0) := (blk_cell BK143.out 0).trans rfl; have hcz21_1 : w19.cell? ⟨gb143, 1, none⟩ = some (.string a0_1) := (blk_cell BK143.out 1).trans rfl; have hcz21_2 : w19.cell? ⟨gb143, 2, none⟩ = some (.slice A0_2 l0_2.length c0_2) := (blk_cell BK143.out 2).trans rfl; have hcz21_3 : w19.cell? ⟨gb143, 3, none⟩ = some (.int .i64 a0_3) := (blk_cell BK143.out 3).trans rfl; have hcz21_4 : w19.cell? ⟨gb143, 4, none⟩ = some (.string a0_4) := (blk_cell BK143.out 4).trans rfl; have hcz21_5 : w19.cell? ⟨gb143, 5, none⟩ = some (.int .i64 a0_5) := (blk_cell BK143.out 5).trans rfl; have hcz21_6 : w19.cell? ⟨gb143, 6, none⟩ = some (.bool a0_6) := (blk_cell BK143.out 6).trans rfl; have hfz21_0 := blk_frozen BK143.out 0; have hfz21_1 := blk_frozen BK143.out 1; have hfz21_2 := blk_frozen BK143.out 2; have hfz21_3 := blk_frozen BK143.out 3; have hfz21_4 := blk_frozen BK143.out 4; have hfz21_5 := blk_frozen BK143.out 5; have hfz21_6 := blk_frozen BK143.out 6; have hcz22_0 : w19.cell? ⟨gb144, 0, none⟩ = some (.int .i64 a1_0) := (blk_cell BK144.out 0).trans rfl; have hcz22_1 : w19.cell? ⟨gb144, 1, none⟩ = some (.string a1_1) := (blk_cell BK144.out 1).trans rfl; have hcz22_2 : w19.cell? ⟨gb144, 2, none⟩ = some (.slice A1_2 l1_2.length c1_2) := (blk_cell BK144.out 2).trans rfl; have hcz22_3 : w19.cell? ⟨gb144, 3, none⟩ = some (.int .i64 a1_3) := (blk_cell BK144.out 3).trans rfl; have hcz22_4 : w19.cell? ⟨gb144, 4, none⟩ = some (.string a1_4) := (blk_cell BK144.out 4).trans rfl; have hcz22_5 : w19.cell? ⟨gb144, 5, none⟩ = some (.int .i64 a1_5) := (blk_cell BK144.out 5).trans rfl; have hcz22_6 : w19.cell? ⟨gb144, 6, none⟩ = some (.bool a1_6) := (blk_cell BK144.out 6).trans rfl; have hfz22_0 := blk_frozen BK144.out 0; have hfz22_1 := blk_frozen BK144.out 1; have hfz22_2 := blk_frozen BK144.out 2; have hfz22_3 := blk_frozen BK144.out 3; have hfz22_4 := blk_frozen BK144.out 4; have hfz22_5 := blk_frozen BK144.out 5; have hfz22_6 := blk_frozen BK144.out 6))
      go_ret
      exact ⟨by first | rfl | (simp [errW_none, errW_some] <;> rfl) | (simp [*, errW_none, errW_some] <;> rfl), by repeat (first | (with_reducible first | exact HB.out | apply below_alloc | apply pw_below_drewN | apply below_drew1 | refine below_set ?_ GE143.out | refine below_set ?_ GE144.out) | exact HB.out)⟩
  · rw [if_neg c3] at H
    have c3b0 : (a0_0 == a1_0) = false := beq_eq_false_iff_ne.mpr c3
    have c3b1 : (a0_0 != a1_0) = true := bne_iff_ne.mpr c3
    obtain rfl := Option.some.inj H
    go_enter Tryz.func108, Tryz.ntmps108
    go_wp2_with (first | ((with_reducible refine gate_dst (N := 2) rfl ?_); refine box_event ?hg (N := 2) ?hd (cs := #[.int .i64 a0_0, .string a0_1, .slice A0_2 l0_2.length c0_2, .int .i64 a0_3, .string a0_4, .int .i64 a0_5, .bool a0_6]) (t := 30) ?hr ?_; (case hd => rfl); (case hg => rfl); (case hr => first | (go_simp; done) | (go_simp; rfl)); intro gb143 hg w23 hbox hb; have n0_ := Aside0.mk (below_step (by repeat (first | (with_reducible first | exact HB.out | apply below_alloc | apply pw_below_drewN | apply below_drew1) | exact HB.out)) hb); have n1_ := Aside0.mk (hbox); have n2_ := Aside0.mk ((by rw [hg]; exact (below_size (by repeat (first | (with_reducible first | exact HB.out | apply below_alloc | apply pw_below_drewN | apply below_drew1) | exact HB.out))) : w.heap.size ≤ gb143)); have n3_ := Aside0.mk ((by rw [hg]; exact (below_size (by repeat (first | (with_reducible first | exact HB.out | apply below_alloc | apply pw_below_drewN | apply below_drew1) | exact HB.out))) : w.heap.size ≤ gb143)); clear HB; have HB := n0_; have BK143 := n1_; have GW143 := n2_; have GE143 := n3_; clear n0_ n1_ n2_ n3_; clear hb hbox hg) | ((with_reducible refine gate_dst (N := 3) rfl ?_); refine box_event ?hg (N := 3) ?hd (cs := #[.int .i64 a1_0, .string a1_1, .slice A1_2 l1_2.length c1_2, .int .i64 a1_3, .string a1_4, .int .i64 a1_5, .bool a1_6]) (t := 30) ?hr ?_; (case hd => rfl); (case hg => rfl); (case hr => first | (go_simp; done) | (go_simp; rfl)); intro gb144 hg w24 hbox hb; have n0_ := Aside0.mk (blk_below (g := gb143) (o := .cells #[.int .i64 a0_0, .string a0_1, .slice A0_2 l0_2.length c0_2, .int .i64 a0_3, .string a0_4, .int .i64 a0_5, .bool a0_6] 30 (0, 0)) (by (with_reducible repeat (first | refine blk_drewN ?_ _ | refine blk_drew ?_ | refine blk_alloc ?_ _)); exact BK143.out) hb); have n1_ := Aside0.mk (below_step (by repeat (first | (with_reducible first | exact HB.out | apply below_alloc | apply pw_below_drewN | apply below_drew1 | refine below_set ?_ GE143.out) | exact HB.out)) hb); have n2_ := Aside0.mk (hbox); have n3_ := Aside0.mk ((by rw [hg]; exact (below_size (by repeat (first | (with_reducible first | exact HB.out | apply below_alloc | apply pw_below_drewN | apply below_drew1 | refine below_set ?_ GE143.out) | exact HB.out))) : w.heap.size ≤ gb144)); have n4_ := Aside0.mk ((by rw [hg]; exact (below_size (by repeat (first | (with_reducible first | exact HB.out | apply below_alloc | apply pw_below_drewN | apply below_drew1 | refine below_set ?_ GE143.out) | exact HB.out))) : w.heap.size ≤ gb144)); have n5_ := Aside0.mk ((by rw [hg]; exact Nat.ne_of_lt (blk_lt (g := gb143) (o := .cells #[.int .i64 a0_0, .string a0_1, .slice A0_2 l0_2.length c0_2, .int .i64 a0_3, .string a0_4, .int .i64 a0_5, .bool a0_6] 30 (0, 0)) (by (with_reducible repeat (first | refine blk_drewN ?_ _ | refine blk_drew ?_ | refine blk_alloc ?_ _)); exact BK143.out)) : gb143 ≠ gb144)); have n6_ := Aside0.mk ((by rw [hg]; exact Nat.ne_of_gt (blk_lt (g := gb143) (o := .cells #[.int .i64 a0_0, .string a0_1, .slice A0_2 l0_2.length c0_2, .int .i64 a0_3, .string a0_4, .int .i64 a0_5, .bool a0_6] 30 (0, 0)) (by (with_reducible repeat (first | refine blk_drewN ?_ _ | refine blk_drew ?_ | refine blk_alloc ?_ _)); exact BK143.out)) : gb144 ≠ gb143)); clear BK143; clear HB; have BK143 := n0_; have HB := n1_; have BK144 := n2_; have GW144 := n3_; have GE144 := n4_; have NB143_144 := n5_; have NB144_143 := n6_; clear n0_ n1_ n2_ n3_ n4_ n5_ n6_; clear hb hbox hg; have hnb25 := NB143_144.out; have hnc25 := NB144_143.out; have hcz26_0 : w24.cell? ⟨gb143, 0, none⟩ = some (.int .i64 a0_0) := (blk_cell BK143.out 0).trans rfl; have hcz26_1 : w24.cell? ⟨gb143, 1, none⟩ = some (.string a0_1) := (blk_cell BK143.out 1).trans rfl; have hcz26_2 : w24.cell? ⟨gb143, 2, none⟩ = some (.slice A0_2 l0_2.length c0_2) := (blk_cell BK143.out 2).trans rfl; have hcz26_3 : w24.cell? ⟨gb143, 3, none⟩ = some (.int .i64 a0_3) := (blk_cell BK143.out 3).trans rfl; have hcz26_4 : w24.cell? ⟨gb143, 4, none⟩ = some (.string a0_4) := (blk_cell BK143.out 4).trans rfl; have hcz26_5 : w24.cell? ⟨gb143, 5, none⟩ = some (.int .i64 a0_5) := (blk_cell BK143.out 5).trans rfl; have hcz26_6 : w24.cell? ⟨gb143, 6, none⟩ = some (.bool a0_6) := (blk_cell BK143.out 6).trans rfl; have hfz26_0 := blk_frozen BK143.out 0; have hfz26_1 := blk_frozen BK143.out 1; have hfz26_2 := blk_frozen BK143.out 2; have hfz26_3 := blk_frozen BK143.out 3; have hfz26_4 := blk_frozen BK143.out 4; have hfz26_5 := blk_frozen BK143.out 5; have hfz26_6 := blk_frozen BK143.out 6; have hcz27_0 : w24.cell? ⟨gb144, 0, none⟩ = some (.int .i64 a1_0) := (blk_cell BK144.out 0).trans rfl; have hcz27_1 : w24.cell? ⟨gb144, 1, none⟩ = some (.string a1_1) := (blk_cell BK144.out 1).trans rfl; have hcz27_2 : w24.cell? ⟨gb144, 2, none⟩ = some (.slice A1_2 l1_2.length c1_2) := (blk_cell BK144.out 2).trans rfl; have hcz27_3 : w24.cell? ⟨gb144, 3, none⟩ = some (.int .i64 a1_3) := (blk_cell BK144.out 3).trans rfl; have hcz27_4 : w24.cell? ⟨gb144, 4, none⟩ = some (.string a1_4) := (blk_cell BK144.out 4).trans rfl; have hcz27_5 : w24.cell? ⟨gb144, 5, none⟩ = some (.int .i64 a1_5) := (blk_cell BK144.out 5).trans rfl; have hcz27_6 : w24.cell? ⟨gb144, 6, none⟩ = some (.bool a1_6) := (blk_cell BK144.out 6).trans rfl; have hfz27_0 := blk_frozen BK144.out 0; have hfz27_1 := blk_frozen BK144.out 1; have hfz27_2 := blk_frozen BK144.out 2; have hfz27_3 := blk_frozen BK144.out 3; have hfz27_4 := blk_frozen BK144.out 4; have hfz27_5 := blk_frozen BK144.out 5; have hfz27_6 := blk_frozen BK144.out 6))
    go_ret
    exact ⟨by first | rfl | (simp [errW_none, errW_some] <;> rfl) | (simp [*, errW_none, errW_some] <;> rfl), by repeat (first | (with_reducible first | exact HB.out | apply below_alloc | apply pw_below_drewN | apply below_drew1 | refine below_set ?_ GE143.out | refine below_set ?_ GE144.out) | exact HB.out)⟩

/-! ### event_Same: function 65 -/
def event_Same.f (k : Nat) (a0_0 : Int) (a0_1 : Int) (a0_2 : ByteArray) (l0_3 : List (S70)) (l0_4 : List (S70)) (a0_5 : Int) (a0_6 : ByteArray) (l0_7 : List (S28)) (a0_8 : Int) (a0_9 : ByteArray) (a0_10 : Int) (a0_11 : Bool) (a1_0 : Int) (a1_1 : Int) (a1_2 : ByteArray) (l1_3 : List (S70)) (l1_4 : List (S70)) (a1_5 : Int) (a1_6 : ByteArray) (l1_7 : List (S28)) (a1_8 : Int) (a1_9 : ByteArray) (a1_10 : Int) (a1_11 : Bool) : Option (Bool) := if a0_0 = a1_0 then (if a0_1 = a1_1 then (if a0_2.toList = a1_2.toList then ((api_Value_107.f k l0_3 l1_3).bind fun t148 => (if t148 = true then ((api_Value_107.f k l0_4 l1_4).bind fun t149 => (if t149 = true then ((event_same.f k a0_5 a0_6 l0_7 a0_8 a0_9 a0_10 a0_11 a1_5 a1_6 l1_7 a1_8 a1_9 a1_10 a1_11).bind fun t150 => (some t150)) else (some false))) else (some false))) else (some false)) else (some false)) else (some false)
theorem event_Same.mono : ∀ a0 a1 a2 a3 a4 a5 a6 a7 a8 a9 a10 a11 a12 a13 a14 a15 a16 a17 a18 a19 a20 a21 a22 a23 k, LeO (event_Same.f k a0 a1 a2 a3 a4 a5 a6 a7 a8 a9 a10 a11 a12 a13 a14 a15 a16 a17 a18 a19 a20 a21 a22 a23) (event_Same.f (k + 1) a0 a1 a2 a3 a4 a5 a6 a7 a8 a9 a10 a11 a12 a13 a14 a15 a16 a17 a18 a19 a20 a21 a22 a23) := by
  intro a0 a1 a2 a3 a4 a5 a6 a7 a8 a9 a10 a11 a12 a13 a14 a15 a16 a17 a18 a19 a20 a21 a22 a23 k
  unfold event_Same.f
  repeat' first
      | (with_reducible exact api_Value_107.mono _ _ _)
      | (with_reducible exact event_same.mono _ _ _ _ _ _ _ _ _ _ _ _ _ _ _)
      | (with_reducible exact LeO.refl _)
      | (with_reducible exact LeO.none _)
      | (with_reducible refine LeO.ite ?_ ?_)
      | (with_reducible refine LeO.bind ?_ (fun _ => ?_))
      | exact api_Value_107.mono _ _ _
      | exact event_same.mono _ _ _ _ _ _ _ _ _ _ _ _ _ _ _
      | exact LeO.none _
      | refine LeO.ite ?_ ?_
      | refine LeO.bind ?_ (fun _ => ?_)
set_option maxHeartbeats 8000000 in
set_option maxRecDepth 100000 in
theorem event_Same.calls (k : Nat) (a0_0 : Int) (a0_1 : Int) (a0_2 : ByteArray) (A0_3 : Option Addr) (c0_3 : Nat) (l0_3 : List (S70)) (A0_4 : Option Addr) (c0_4 : Nat) (l0_4 : List (S70)) (a0_5 : Int) (a0_6 : ByteArray) (A0_7 : Option Addr) (c0_7 : Nat) (l0_7 : List (S28)) (a0_8 : Int) (a0_9 : ByteArray) (a0_10 : Int) (a0_11 : Bool) (a1_0 : Int) (a1_1 : Int) (a1_2 : ByteArray) (A1_3 : Option Addr) (c1_3 : Nat) (l1_3 : List (S70)) (A1_4 : Option Addr) (c1_4 : Nat) (l1_4 : List (S70)) (a1_5 : Int) (a1_6 : ByteArray) (A1_7 : Option Addr) (c1_7 : Nat) (l1_7 : List (S28)) (a1_8 : Int) (a1_9 : ByteArray) (a1_10 : Int) (a1_11 : Bool) (r : Bool) (w : World) (hr0_3 : Kd.C k70 w A0_3 l0_3.length l0_3) (hc0_3 : l0_3.length ≤ c0_3) (hr0_4 : Kd.C k70 w A0_4 l0_4.length l0_4) (hc0_4 : l0_4.length ≤ c0_4) (hr0_7 : Kd.C k28 w A0_7 l0_7.length l0_7) (hc0_7 : l0_7.length ≤ c0_7) (hr1_3 : Kd.C k70 w A1_3 l1_3.length l1_3) (hc1_3 : l1_3.length ≤ c1_3) (hr1_4 : Kd.C k70 w A1_4 l1_4.length l1_4) (hc1_4 : l1_4.length ≤ c1_4) (hr1_7 : Kd.C k28 w A1_7 l1_7.length l1_7) (hc1_7 : l1_7.length ≤ c1_7) (h : event_Same.f k a0_0 a0_1 a0_2 l0_3 l0_4 a0_5 a0_6 l0_7 a0_8 a0_9 a0_10 a0_11 a1_0 a1_1 a1_2 l1_3 l1_4 a1_5 a1_6 l1_7 a1_8 a1_9 a1_10 a1_11 = some r) :
    Calls Tryz.prog 65 #[.agg #[.int .i64 a0_0, .int .i64 a0_1, .string a0_2, .slice A0_3 l0_3.length c0_3, .slice A0_4 l0_4.length c0_4, .int .i64 a0_5, .string a0_6, .slice A0_7 l0_7.length c0_7, .int .i64 a0_8, .string a0_9, .int .i64 a0_10, .bool a0_11], .agg #[.int .i64 a1_0, .int .i64 a1_1, .string a1_2, .slice A1_3 l1_3.length c1_3, .slice A1_4 l1_4.length c1_4, .int .i64 a1_5, .string a1_6, .slice A1_7 l1_7.length c1_7, .int .i64 a1_8, .string a1_9, .int .i64 a1_10, .bool a1_11]] w fun e w' => e = .returned (.bool r) ∧ Below w.heap.size w w' := by
  have hu32 := Tryz.underlying32
  have hu30 := Tryz.underlying30
  have HR0_3 := Aside0.mk hr0_3
  have HC0_3 := Aside0.mk hc0_3
  clear hr0_3 hc0_3
  have HR0_4 := Aside0.mk hr0_4
  have HC0_4 := Aside0.mk hc0_4
  clear hr0_4 hc0_4
  have HR0_7 := Aside0.mk hr0_7
  have HC0_7 := Aside0.mk hc0_7
  clear hr0_7 hc0_7
  have HR1_3 := Aside0.mk hr1_3
  have HC1_3 := Aside0.mk hc1_3
  clear hr1_3 hc1_3
  have HR1_4 := Aside0.mk hr1_4
  have HC1_4 := Aside0.mk hc1_4
  clear hr1_4 hc1_4
  have HR1_7 := Aside0.mk hr1_7
  have HC1_7 := Aside0.mk hc1_7
  clear hr1_7 hc1_7
  have HB := Aside0.mk (Below.refl w.heap.size w)
  have H : (if a0_0 = a1_0 then (if a0_1 = a1_1 then (if a0_2.toList = a1_2.toList then ((api_Value_107.f k l0_3 l1_3).bind fun t148 => (if t148 = true then ((api_Value_107.f k l0_4 l1_4).bind fun t149 => (if t149 = true then ((event_same.f k a0_5 a0_6 l0_7 a0_8 a0_9 a0_10 a0_11 a1_5 a1_6 l1_7 a1_8 a1_9 a1_10 a1_11).bind fun t150 => (some t150)) else (some false))) else (some false))) else (some false)) else (some false)) else (some false)) = some r := h
  clear h
  by_cases c3 : a0_0 = a1_0
  · rw [if_pos c3] at H
    have c3b0 : (a0_0 == a1_0) = true := beq_iff_eq.mpr c3
    have c3b1 : (a0_0 != a1_0) = false := bne_eq_false_iff_eq.mpr c3
    clear c3
    by_cases c4 : a0_1 = a1_1
    · rw [if_pos c4] at H
      have c4b0 : (a0_1 == a1_1) = true := beq_iff_eq.mpr c4
      have c4b1 : (a0_1 != a1_1) = false := bne_eq_false_iff_eq.mpr c4
      clear c4
      by_cases c5 : a0_2.toList = a1_2.toList
      · rw [if_pos c5] at H
        have c5b0 : (a0_2.toList == a1_2.toList) = true := beq_iff_eq.mpr c5
        have c5b1 : (a0_2.toList != a1_2.toList) = false := bne_eq_false_iff_eq.mpr c5
        clear c5
        replace H := Option.bind_eq_some_iff.mp H
        obtain ⟨t148, A60, H⟩ := H
        replace H : (if t148 = true then ((api_Value_107.f k l0_4 l1_4).bind fun t149 => (if t149 = true then ((event_same.f k a0_5 a0_6 l0_7 a0_8 a0_9 a0_10 a0_11 a1_5 a1_6 l1_7 a1_8 a1_9 a1_10 a1_11).bind fun t150 => (some t150)) else (some false))) else (some false)) = some r := H
        have A6 := Aside0.mk A60
        clear A60
        by_cases c7 : t148 = true
        · subst c7
          have H1 : ((api_Value_107.f k l0_4 l1_4).bind fun t149 => (if t149 = true then ((event_same.f k a0_5 a0_6 l0_7 a0_8 a0_9 a0_10 a0_11 a1_5 a1_6 l1_7 a1_8 a1_9 a1_10 a1_11).bind fun t150 => (some t150)) else (some false))) = some r := by rw [if_pos rfl] at H; exact H
          clear H
          have H := H1
          clear H1
          replace H := Option.bind_eq_some_iff.mp H
          obtain ⟨t149, A80, H⟩ := H
          replace H : (if t149 = true then ((event_same.f k a0_5 a0_6 l0_7 a0_8 a0_9 a0_10 a0_11 a1_5 a1_6 l1_7 a1_8 a1_9 a1_10 a1_11).bind fun t150 => (some t150)) else (some false)) = some r := H
          have A8 := Aside0.mk A80
          clear A80
          by_cases c9 : t149 = true
          · subst c9
            have H1 : ((event_same.f k a0_5 a0_6 l0_7 a0_8 a0_9 a0_10 a0_11 a1_5 a1_6 l1_7 a1_8 a1_9 a1_10 a1_11).bind fun t150 => (some t150)) = some r := by rw [if_pos rfl] at H; exact H
            clear H
            have H := H1
            clear H1
            replace H := Option.bind_eq_some_iff.mp H
            obtain ⟨t150, A100, H⟩ := H
            replace H : (some t150) = some r := H
            have A10 := Aside0.mk A100
            clear A100
            obtain rfl := Option.some.inj H
            go_enter Tryz.func65, Tryz.ntmps65
            go_wp2_with (first | ((with_reducible refine gate_dst (N := 2) rfl ?_); refine box_event ?hg (N := 2) ?hd (cs := #[.int .i64 a0_0, .int .i64 a0_1, .string a0_2, .slice A0_3 l0_3.length c0_3, .slice A0_4 l0_4.length c0_4, .int .i64 a0_5, .string a0_6, .slice A0_7 l0_7.length c0_7, .int .i64 a0_8, .string a0_9, .int .i64 a0_10, .bool a0_11]) (t := 32) ?hr ?_; (case hd => rfl); (case hg => rfl); (case hr => first | (go_simp; done) | (go_simp; rfl)); intro gb146 hg w11 hbox hb; have n0_ := Aside0.mk (below_step (by repeat (first | (with_reducible first | exact HB.out | apply below_alloc | apply pw_below_drewN | apply below_drew1) | exact HB.out)) hb); have n1_ := Aside0.mk (hbox); have n2_ := Aside0.mk ((by rw [hg]; exact (below_size (by repeat (first | (with_reducible first | exact HB.out | apply below_alloc | apply pw_below_drewN | apply below_drew1) | exact HB.out))) : w.heap.size ≤ gb146)); have n3_ := Aside0.mk ((by rw [hg]; exact (below_size (by repeat (first | (with_reducible first | exact HB.out | apply below_alloc | apply pw_below_drewN | apply below_drew1) | exact HB.out))) : w.heap.size ≤ gb146)); clear HB; have HB := n0_; have BK146 := n1_; have GW146 := n2_; have GE146 := n3_; clear n0_ n1_ n2_ n3_; clear hb hbox hg) | ((with_reducible refine gate_dst (N := 3) rfl ?_); refine box_event ?hg (N := 3) ?hd (cs := #[.int .i64 a1_0, .int .i64 a1_1, .string a1_2, .slice A1_3 l1_3.length c1_3, .slice A1_4 l1_4.length c1_4, .int .i64 a1_5, .string a1_6, .slice A1_7 l1_7.length c1_7, .int .i64 a1_8, .string a1_9, .int .i64 a1_10, .bool a1_11]) (t := 32) ?hr ?_; (case hd => rfl); (case hg => rfl); (case hr => first | (go_simp; done) | (go_simp; rfl)); intro gb147 hg w12 hbox hb; have n0_ := Aside0.mk (blk_below (g := gb146) (o := .cells #[.int .i64 a0_0, .int .i64 a0_1, .string a0_2, .slice A0_3 l0_3.length c0_3, .slice A0_4 l0_4.length c0_4, .int .i64 a0_5, .string a0_6, .slice A0_7 l0_7.length c0_7, .int .i64 a0_8, .string a0_9, .int .i64 a0_10, .bool a0_11] 32 (0, 0)) (by (with_reducible repeat (first | refine blk_drewN ?_ _ | refine blk_drew ?_ | refine blk_alloc ?_ _)); exact BK146.out) hb); have n1_ := Aside0.mk (below_step (by repeat (first | (with_reducible first | exact HB.out | apply below_alloc | apply pw_below_drewN | apply below_drew1 | refine below_set ?_ GE146.out) | exact HB.out)) hb); have n2_ := Aside0.mk (hbox); have n3_ := Aside0.mk ((by rw [hg]; exact (below_size (by repeat (first | (with_reducible first | exact HB.out | apply below_alloc | apply pw_below_drewN | apply below_drew1 | refine below_set ?_ GE146.out) | exact HB.out))) : w.heap.size ≤ gb147)); have n4_ := Aside0.mk ((by rw [hg]; exact (below_size (by repeat (first | (with_reducible first | exact HB.out | apply below_alloc | apply pw_below_drewN | apply below_drew1 | refine below_set ?_ GE146.out) | exact HB.out))) : w.heap.size ≤ gb147)); have n5_ := Aside0.mk ((by rw [hg]; exact Nat.ne_of_lt (blk_lt (g := gb146) (o := .cells #[.int .i64 a0_0, .int .i64 a0_1, .string a0_2, .slice A0_3 l0_3.length c0_3, .slice A0_4 l0_4.length c0_4, .int .i64 a0_5, .string a0_6, .slice A0_7 l0_7.length c0_7, .int .i64 a0_8, .string a0_9, .int .i64 a0_10, .bool a0_11] 32 (0, 0)) (by (with_reducible repeat (first | refine blk_drewN ?_ _ | refine blk_drew ?_ | refine blk_alloc ?_ _)); exact BK146.out)) : gb146 ≠ gb147)); have n6_ := Aside0.mk ((by rw [hg]; exact Nat.ne_of_gt (blk_lt (g := gb146) (o := .cells #[.int .i64 a0_0, .int .i64 a0_1, .string a0_2, .slice A0_3 l0_3.length c0_3, .slice A0_4 l0_4.length c0_4, .int .i64 a0_5, .string a0_6, .slice A0_7 l0_7.length c0_7, .int .i64 a0_8, .string a0_9, .int .i64 a0_10, .bool a0_11] 32 (0, 0)) (by (with_reducible repeat (first | refine blk_drewN ?_ _ | refine blk_drew ?_ | refine blk_alloc ?_ _)); exact BK146.out)) : gb147 ≠ gb146)); clear BK146; clear HB; have BK146 := n0_; have HB := n1_; have BK147 := n2_; have GW147 := n3_; have GE147 := n4_; have NB146_147 := n5_; have NB147_146 := n6_; clear n0_ n1_ n2_ n3_ n4_ n5_ n6_; clear hb hbox hg; have hnb13 := NB146_147.out; have hnc13 := NB147_146.out; have hcz14_0 : w12.cell? ⟨gb146, 0, none⟩ = some (.int .i64 a0_0) := (blk_cell BK146.out 0).trans rfl; have hcz14_1 : w12.cell? ⟨gb146, 1, none⟩ = some (.int .i64 a0_1) := (blk_cell BK146.out 1).trans rfl; have hcz14_2 : w12.cell? ⟨gb146, 2, none⟩ = some (.string a0_2) := (blk_cell BK146.out 2).trans rfl; have hcz14_3 : w12.cell? ⟨gb146, 3, none⟩ = some (.slice A0_3 l0_3.length c0_3) := (blk_cell BK146.out 3).trans rfl; have hcz14_4 : w12.cell? ⟨gb146, 4, none⟩ = some (.slice A0_4 l0_4.length c0_4) := (blk_cell BK146.out 4).trans rfl; have hcz14_5 : w12.cell? ⟨gb146, 5, none⟩ = some (.int .i64 a0_5) := (blk_cell BK146.out 5).trans rfl; have hcz14_6 : w12.cell? ⟨gb146, 6, none⟩ = some (.string a0_6) := (blk_cell BK146.out 6).trans rfl; have hcz14_7 : w12.cell? ⟨gb146, 7, none⟩ = some (.slice A0_7 l0_7.length c0_7) := (blk_cell BK146.out 7).trans rfl; have hcz14_8 : w12.cell? ⟨gb146, 8, none⟩ = some (.int .i64 a0_8) := (blk_cell BK146.out 8).trans rfl; have hcz14_9 : w12.cell? ⟨gb146, 9, none⟩ = some (.string a0_9) := (blk_cell BK146.out 9).trans rfl; have hcz14_10 : w12.cell? ⟨gb146, 10, none⟩ = some (.int .i64 a0_10) := (blk_cell BK146.out 10).trans rfl; have hcz14_11 : w12.cell? ⟨gb146, 11, none⟩ = some (.bool a0_11) := (blk_cell BK146.out 11).trans rfl; have hfz14_0 := blk_frozen BK146.out 0; have hfz14_1 := blk_frozen BK146.out 1; have hfz14_2 := blk_frozen BK146.out 2; have hfz14_3 := blk_frozen BK146.out 3; have hfz14_4 := blk_frozen BK146.out 4; have hfz14_5 := blk_frozen BK146.out 5; have hfz14_6 := blk_frozen BK146.out 6; have hfz14_7 := blk_frozen BK146.out 7; have hfz14_8 := blk_frozen BK146.out 8; have hfz14_9 := blk_frozen BK146.out 9; have hfz14_10 := blk_frozen BK146.out 10; have hfz14_11 := blk_frozen BK146.out 11; have hcz15_0 : w12.cell? ⟨gb147, 0, none⟩ = some (.int .i64 a1_0) := (blk_cell BK147.out 0).trans rfl; have hcz15_1 : w12.cell? ⟨gb147, 1, none⟩ = some (.int .i64 a1_1) := (blk_cell BK147.out 1).trans rfl; have hcz15_2 : w12.cell? ⟨gb147, 2, none⟩ = some (.string a1_2) := (blk_cell BK147.out 2).trans rfl; have hcz15_3 : w12.cell? ⟨gb147, 3, none⟩ = some (.slice A1_3 l1_3.length c1_3) := (blk_cell BK147.out 3).trans rfl; have hcz15_4 : w12.cell? ⟨gb147, 4, none⟩ = some (.slice A1_4 l1_4.length c1_4) := (blk_cell BK147.out 4).trans rfl; have hcz15_5 : w12.cell? ⟨gb147, 5, none⟩ = some (.int .i64 a1_5) := (blk_cell BK147.out 5).trans rfl; have hcz15_6 : w12.cell? ⟨gb147, 6, none⟩ = some (.string a1_6) := (blk_cell BK147.out 6).trans rfl; have hcz15_7 : w12.cell? ⟨gb147, 7, none⟩ = some (.slice A1_7 l1_7.length c1_7) := (blk_cell BK147.out 7).trans rfl; have hcz15_8 : w12.cell? ⟨gb147, 8, none⟩ = some (.int .i64 a1_8) := (blk_cell BK147.out 8).trans rfl; have hcz15_9 : w12.cell? ⟨gb147, 9, none⟩ = some (.string a1_9) := (blk_cell BK147.out 9).trans rfl; have hcz15_10 : w12.cell? ⟨gb147, 10, none⟩ = some (.int .i64 a1_10) := (blk_cell BK147.out 10).trans rfl; have hcz15_11 : w12.cell? ⟨gb147, 11, none⟩ = some (.bool a1_11) := (blk_cell BK147.out 11).trans rfl; have hfz15_0 := blk_frozen BK147.out 0; have hfz15_1 := blk_frozen BK147.out 1; have hfz15_2 := blk_frozen BK147.out 2; have hfz15_3 := blk_frozen BK147.out 3; have hfz15_4 := blk_frozen BK147.out 4; have hfz15_5 := blk_frozen BK147.out 5; have hfz15_6 := blk_frozen BK147.out 6; have hfz15_7 := blk_frozen BK147.out 7; have hfz15_8 := blk_frozen BK147.out 8; have hfz15_9 := blk_frozen BK147.out 9; have hfz15_10 := blk_frozen BK147.out 10; have hfz15_11 := blk_frozen BK147.out 11) | (go_at_call 107; (with_reducible refine (api_Value_107.calls k _ _ l0_3 _ _ l1_3 true _ ?side1 ?side2 ?side3 ?side4 A6.out).mono ?_); (case side1 => repeat (first | exact (Kd.C_below HR0_3.out HB.out) | (with_reducible refine Kd.C_alloc ?_ _) | (with_reducible refine Kd.C_drewN ?_ _) | (with_reducible refine Kd.C_drew ?_))); (case side2 => exact HC0_3.out); (case side3 => repeat (first | exact (Kd.C_below HR1_3.out HB.out) | (with_reducible refine Kd.C_alloc ?_ _) | (with_reducible refine Kd.C_drewN ?_ _) | (with_reducible refine Kd.C_drew ?_))); (case side4 => exact HC1_3.out); rintro e w' ⟨rfl, ⟨nd, rfl⟩⟩) | (go_at_call 107; (with_reducible refine (api_Value_107.calls k _ _ l0_4 _ _ l1_4 true _ ?side1 ?side2 ?side3 ?side4 A8.out).mono ?_); (case side1 => repeat (first | exact (Kd.C_below HR0_4.out (by repeat (first | (with_reducible first | exact HB.out | apply below_alloc | apply pw_below_drewN | apply below_drew1 | refine below_set ?_ GE146.out | refine below_set ?_ GE147.out) | exact HB.out))) | (with_reducible refine Kd.C_alloc ?_ _) | (with_reducible refine Kd.C_drewN ?_ _) | (with_reducible refine Kd.C_drew ?_))); (case side2 => exact HC0_4.out); (case side3 => repeat (first | exact (Kd.C_below HR1_4.out (by repeat (first | (with_reducible first | exact HB.out | apply below_alloc | apply pw_below_drewN | apply below_drew1 | refine below_set ?_ GE146.out | refine below_set ?_ GE147.out) | exact HB.out))) | (with_reducible refine Kd.C_alloc ?_ _) | (with_reducible refine Kd.C_drewN ?_ _) | (with_reducible refine Kd.C_drew ?_))); (case side4 => exact HC1_4.out); rintro e w' ⟨rfl, ⟨nd, rfl⟩⟩) | (go_at_call 108; (with_reducible refine (event_same.calls k a0_5 a0_6 _ _ l0_7 a0_8 a0_9 a0_10 a0_11 a1_5 a1_6 _ _ l1_7 a1_8 a1_9 a1_10 a1_11 t150 _ ?side1 ?side2 ?side3 ?side4 A10.out).mono ?_); (case side1 => repeat (first | exact (Kd.C_below HR0_7.out (by repeat (first | (with_reducible first | exact HB.out | apply below_alloc | apply pw_below_drewN | apply below_drew1 | refine below_set ?_ GE146.out | refine below_set ?_ GE147.out) | exact HB.out))) | (with_reducible refine Kd.C_alloc ?_ _) | (with_reducible refine Kd.C_drewN ?_ _) | (with_reducible refine Kd.C_drew ?_))); (case side2 => exact HC0_7.out); (case side3 => repeat (first | exact (Kd.C_below HR1_7.out (by repeat (first | (with_reducible first | exact HB.out | apply below_alloc | apply pw_below_drewN | apply below_drew1 | refine below_set ?_ GE146.out | refine below_set ?_ GE147.out) | exact HB.out))) | (with_reducible refine Kd.C_alloc ?_ _) | (with_reducible refine Kd.C_drewN ?_ _) | (with_reducible refine Kd.C_drew ?_))); (case side4 => exact HC1_7.out); rintro e w16 ⟨rfl, hb⟩; have n0_ := Aside0.mk (blk_below (g := gb146) (o := .cells #[.int .i64 a0_0, .int .i64 a0_1, .string a0_2, .slice A0_3 l0_3.length c0_3, .slice A0_4 l0_4.length c0_4, .int .i64 a0_5, .string a0_6, .slice A0_7 l0_7.length c0_7, .int .i64 a0_8, .string a0_9, .int .i64 a0_10, .bool a0_11] 32 (0, 0)) (by (with_reducible repeat (first | refine blk_drewN ?_ _ | refine blk_drew ?_ | refine blk_alloc ?_ _)); exact BK146.out) hb); have n1_ := Aside0.mk (blk_below (g := gb147) (o := .cells #[.int .i64 a1_0, .int .i64 a1_1, .string a1_2, .slice A1_3 l1_3.length c1_3, .slice A1_4 l1_4.length c1_4, .int .i64 a1_5, .string a1_6, .slice A1_7 l1_7.length c1_7, .int .i64 a1_8, .string a1_9, .int .i64 a1_10, .bool a1_11] 32 (0, 0)) (by (with_reducible repeat (first | refine blk_drewN ?_ _ | refine blk_drew ?_ | refine blk_alloc ?_ _)); exact BK147.out) hb); have n2_ := Aside0.mk (below_step (by repeat (first | (with_reducible first | exact HB.out | apply below_alloc | apply pw_below_drewN | apply below_drew1 | refine below_set ?_ GE146.out | refine below_set ?_ GE147.out) | exact HB.out)) hb); clear BK146; clear BK147; clear HB; have BK146 := n0_; have BK147 := n1_; have HB := n2_; clear n0_ n1_ n2_; (try clear hb); (try clear hb2); (try clear hk); (try clear hi)))
            go_ret
            exact ⟨by first | rfl | (simp [errW_none, errW_some] <;> rfl) | (simp [*, errW_none, errW_some] <;> rfl), by repeat (first | (with_reducible first | exact HB.out | apply below_alloc | apply pw_below_drewN | apply below_drew1 | refine below_set ?_ GE146.out | refine below_set ?_ GE147.out) | exact HB.out)⟩
          · replace c9 := Bool.eq_false_iff.mpr c9
            subst c9
            have H1 : (some false) = some r := by rw [if_neg (show ¬ (false = true) by decide)] at H; exact H
            clear H
            have H := H1
            clear H1
            obtain rfl := Option.some.inj H
            go_enter Tryz.func65, Tryz.ntmps65
            go_wp2_with (first | ((with_reducible refine gate_dst (N := 2) rfl ?_); refine box_event ?hg (N := 2) ?hd (cs := #[.int .i64 a0_0, .int .i64 a0_1, .string a0_2, .slice A0_3 l0_3.length c0_3, .slice A0_4 l0_4.length c0_4, .int .i64 a0_5, .string a0_6, .slice A0_7 l0_7.length c0_7, .int .i64 a0_8, .string a0_9, .int .i64 a0_10, .bool a0_11]) (t := 32) ?hr ?_; (case hd => rfl); (case hg => rfl); (case hr => first | (go_simp; done) | (go_simp; rfl)); intro gb146 hg w17 hbox hb; have n0_ := Aside0.mk (below_step (by repeat (first | (with_reducible first | exact HB.out | apply below_alloc | apply pw_below_drewN | apply below_drew1) | exact HB.out)) hb); have n1_ := Aside0.mk (hbox); have n2_ := Aside0.mk ((by rw [hg]; exact (below_size (by repeat (first | (with_reducible first | exact HB.out | apply below_alloc | apply pw_below_drewN | apply below_drew1) | exact HB.out))) : w.heap.size ≤ gb146)); have n3_ := Aside0.mk ((by rw [hg]; exact (below_size (by repeat (first | (with_reducible first | exact HB.out | apply below_alloc | apply pw_below_drewN | apply below_drew1) | exact HB.out))) : w.heap.size ≤ gb146)); clear HB; have HB := n0_; have BK146 := n1_; have GW146 := n2_; have GE146 := n3_; clear n0_ n1_ n2_ n3_; clear hb hbox hg) | ((with_reducible refine gate_dst (N := 3) rfl ?_); refine box_event ?hg (N := 3) ?hd (cs := #[.int .i64 a1_0, .int .i64 a1_1, .string a1_2, .slice A1_3 l1_3.length c1_3, .slice A1_4 l1_4.length c1_4, .int .i64 a1_5, .string a1_6, .slice A1_7 l1_7.length c1_7, .int .i64 a1_8, .string a1_9, .int .i64 a1_10, .bool a1_11]) (t := 32) ?hr ?_; (case hd => rfl); (case hg => rfl); (case hr => first | (go_simp; done) | (go_simp; rfl)); intro gb147 hg w18 hbox hb; have n0_ := Aside0.mk (blk_below (g := gb146) (o := .cells #[.int .i64 a0_0, .int .i64 a0_1, .string a0_2, .slice A0_3 l0_3.length c0_3, .slice A0_4 l0_4.length c0_4, .int .i64 a0_5, .string a0_6, .slice A0_7 l0_7.length c0_7, .int .i64 a0_8, .string a0_9, .int .i64 a0_10, .bool a0_11] 32 (0, 0)) (by (with_reducible repeat (first | refine blk_drewN ?_ _ | refine blk_drew ?_ | refine blk_alloc ?_ _)); exact BK146.out) hb); have n1_ := Aside0.mk (below_step (by repeat (first | (with_reducible first | exact HB.out | apply below_alloc | apply pw_below_drewN | apply below_drew1 | refine below_set ?_ GE146.out) | exact HB.out)) hb); have n2_ := Aside0.mk (hbox); have n3_ := Aside0.mk ((by rw [hg]; exact (below_size (by repeat (first | (with_reducible first | exact HB.out | apply below_alloc | apply pw_below_drewN | apply below_drew1 | refine below_set ?_ GE146.out) | exact HB.out))) : w.heap.size ≤ gb147)); have n4_ := Aside0.mk ((by rw [hg]; exact (below_size (by repeat (first | (with_reducible first | exact HB.out | apply below_alloc | apply pw_below_drewN | apply below_drew1 | refine below_set ?_ GE146.out) | exact HB.out))) : w.heap.size ≤ gb147)); have n5_ := Aside0.mk ((by rw [hg]; exact Nat.ne_of_lt (blk_lt (g := gb146) (o := .cells #[.int .i64 a0_0, .int .i64 a0_1, .string a0_2, .slice A0_3 l0_3.length c0_3, .slice A0_4 l0_4.length c0_4, .int .i64 a0_5, .string a0_6, .slice A0_7 l0_7.length c0_7, .int .i64 a0_8, .string a0_9, .int .i64 a0_10, .bool a0_11] 32 (0, 0)) (by (with_reducible repeat (first | refine blk_drewN ?_ _ | refine blk_drew ?_ | refine blk_alloc ?_ _)); exact BK146.out)) : gb146 ≠ gb147)); have n6_ := Aside0.mk ((by rw [hg]; exact Nat.ne_of_gt (blk_lt (g := gb146) (o := .cells #[.int .i64 a0_0, .int .i64 a0_1, .string a0_2, .slice A0_3 l0_3.length c0_3, .slice A0_4 l0_4.length c0_4, .int .i64 a0_5, .string a0_6, .slice A0_7 l0_7.length c0_7, .int .i64 a0_8, .string a0_9, .int .i64 a0_10, .bool a0_11] 32 (0, 0)) (by (with_reducible repeat (first | refine blk_drewN ?_ _ | refine blk_drew ?_ | refine blk_alloc ?_ _)); exact BK146.out)) : gb147 ≠ gb146)); clear BK146; clear HB; have BK146 := n0_; have HB := n1_; have BK147 := n2_; have GW147 := n3_; have GE147 := n4_; have NB146_147 := n5_; have NB147_146 := n6_; clear n0_ n1_ n2_ n3_ n4_ n5_ n6_; clear hb hbox hg; have hnb19 := NB146_147.out; have hnc19 := NB147_146.out; have hcz20_0 : w18.cell? ⟨gb146, 0, none⟩ = some (.int .i64 a0_0) := (blk_cell BK146.out 0).trans rfl; have hcz20_1 : w18.cell? ⟨gb146, 1, none⟩ = some (.int .i64 a0_1) := (blk_cell BK146.out 1).trans rfl; have hcz20_2 : w18.cell? ⟨gb146, 2, none⟩ = some (.string a0_2) := (blk_cell BK146.out 2).trans rfl; have hcz20_3 : w18.cell? ⟨gb146, 3, none⟩ = some (.slice A0_3 l0_3.length c0_3) := (blk_cell BK146.out 3).trans rfl; have hcz20_4 : w18.cell? ⟨gb146, 4, none⟩ = some (.slice A0_4 l0_4.length c0_4) := (blk_cell BK146.out 4).trans rfl; have hcz20_5 : w18.cell? ⟨gb146, 5, none⟩ = some (.int .i64 a0_5) := (blk_cell BK146.out 5).trans rfl; have hcz20_6 : w18.cell? ⟨gb146, 6, none⟩ = some (.string a0_6) := (blk_cell BK146.out 6).trans rfl; have hcz20_7 : w18.cell? ⟨gb146, 7, none⟩ = some (.slice A0_7 l0_7.length c0_7) := (blk_cell BK146.out 7).trans rfl; have hcz20_8 : w18.cell? ⟨gb146, 8, none⟩ = some (.int .i64 a0_8) := (blk_cell BK146.out 8).trans rfl; have hcz20_9 : w18.cell? ⟨gb146, 9, none⟩ = some (.string a0_9) := (blk_cell BK146.out 9).trans rfl; have hcz20_10 : w18.cell? ⟨gb146, 10, none⟩ = some (.int .i64 a0_10) := (blk_cell BK146.out 10).trans rfl; have hcz20_11 : w18.cell? ⟨gb146, 11, none⟩ = some (.bool a0_11) := (blk_cell BK146.out 11).trans rfl; have hfz20_0 := blk_frozen BK146.out 0; have hfz20_1 := blk_frozen BK146.out 1; have hfz20_2 := blk_frozen BK146.out 2; have hfz20_3 := blk_frozen BK146.out 3; have hfz20_4 := blk_frozen BK146.out 4; have hfz20_5 := blk_frozen BK146.out 5; have hfz20_6 := blk_frozen BK146.out 6; have hfz20_7 := blk_frozen BK146.out 7; have hfz20_8 := blk_frozen BK146.out 8; have hfz20_9 := blk_frozen BK146.out 9; have hfz20_10 := blk_frozen BK146.out 10; have hfz20_11 := blk_frozen BK146.out 11; have hcz21_0 : w18.cell? ⟨gb147, 0, none⟩ = some (.int .i64 a1_0) := (blk_cell BK147.out 0).trans rfl; have hcz21_1 : w18.cell? ⟨gb147, 1, none⟩ = some (.int .i64 a1_1) := (blk_cell BK147.out 1).trans rfl; have hcz21_2 : w18.cell? ⟨gb147, 2, none⟩ = some (.string a1_2) := (blk_cell BK147.out 2).trans rfl; have hcz21_3 : w18.cell? ⟨gb147, 3, none⟩ = some (.slice A1_3 l1_3.length c1_3) := (blk_cell BK147.out 3).trans rfl; have hcz21_4 : w18.cell? ⟨gb147, 4, none⟩ = some (.slice A1_4 l1_4.length c1_4) := (blk_cell BK147.out 4).trans rfl; have hcz21_5 : w18.cell? ⟨gb147, 5, none⟩ = some (.int .i64 a1_5) := (blk_cell BK147.out 5).trans rfl; have hcz21_6 : w18.cell? ⟨gb147, 6, none⟩ = some (.string a1_6) := (blk_cell BK147.out 6).trans rfl; have hcz21_7 : w18.cell? ⟨gb147, 7, none⟩ = some (.slice A1_7 l1_7.length c1_7) := (blk_cell BK147.out 7).trans rfl; have hcz21_8 : w18.cell? ⟨gb147, 8, none⟩ = some (.int .i64 a1_8) := (blk_cell BK147.out 8).trans rfl; have hcz21_9 : w18.cell? ⟨gb147, 9, none⟩ = some (.string a1_9) := (blk_cell BK147.out 9).trans rfl; have hcz21_10 : w18.cell? ⟨gb147, 10, none⟩ = some (.int .i64 a1_10) := (blk_cell BK147.out 10).trans rfl; have hcz21_11 : w18.cell? ⟨gb147, 11, none⟩ = some (.bool a1_11) := (blk_cell BK147.out 11).trans rfl; have hfz21_0 := blk_frozen BK147.out 0; have hfz21_1 := blk_frozen BK147.out 1; have hfz21_2 := blk_frozen BK147.out 2; have hfz21_3 := blk_frozen BK147.out 3; have hfz21_4 := blk_frozen BK147.out 4; have hfz21_5 := blk_frozen BK147.out 5; have hfz21_6 := blk_frozen BK147.out 6; have hfz21_7 := blk_frozen BK147.out 7; have hfz21_8 := blk_frozen BK147.out 8; have hfz21_9 := blk_frozen BK147.out 9; have hfz21_10 := blk_frozen BK147.out 10; have hfz21_11 := blk_frozen BK147.out 11) | (go_at_call 107; (with_reducible refine (api_Value_107.calls k _ _ l0_3 _ _ l1_3 true _ ?side1 ?side2 ?side3 ?side4 A6.out).mono ?_); (case side1 => repeat (first | exact (Kd.C_below HR0_3.out HB.out) | (with_reducible refine Kd.C_alloc ?_ _) | (with_reducible refine Kd.C_drewN ?_ _) | (with_reducible refine Kd.C_drew ?_))); (case side2 => exact HC0_3.out); (case side3 => repeat (first | exact (Kd.C_below HR1_3.out HB.out) | (with_reducible refine Kd.C_alloc ?_ _) | (with_reducible refine Kd.C_drewN ?_ _) | (with_reducible refine Kd.C_drew ?_))); (case side4 => exact HC1_3.out); rintro e w' ⟨rfl, ⟨nd, rfl⟩⟩) | (go_at_call 107; (with_reducible refine (api_Value_107.calls k _ _ l0_4 _ _ l1_4 false _ ?side1 ?side2 ?side3 ?side4 A8.out).mono ?_); (case side1 => repeat (first | exact (Kd.C_below HR0_4.out (by repeat (first | (with_reducible first | exact HB.out | apply below_alloc | apply pw_below_drewN | apply below_drew1 | refine below_set ?_ GE146.out | refine below_set ?_ GE147.out) | exact HB.out))) | (with_reducible refine Kd.C_alloc ?_ _) | (with_reducible refine Kd.C_drewN ?_ _) | (with_reducible refine Kd.C_drew ?_))); (case side2 => exact HC0_4.out); (case side3 => repeat (first | exact (Kd.C_below HR1_4.out (by repeat (first | (with_reducible first | exact HB.out | apply below_alloc | apply pw_below_drewN | apply below_drew1 | refine below_set ?_ GE146.out | refine below_set ?_ GE147.out) | exact HB.out))) | (with_reducible refine Kd.C_alloc ?_ _) | (with_reducible refine Kd.C_drewN ?_ _) | (with_reducible refine Kd.C_drew ?_))); (case side4 => exact HC1_4.out); rintro e w' ⟨rfl, ⟨nd, rfl⟩⟩))
            go_ret
            exact ⟨by first | rfl | (simp [errW_none, errW_some] <;> rfl) | (simp [*, errW_none, errW_some] <;> rfl), by repeat (first | (with_reducible first | exact HB.out | apply below_alloc | apply pw_below_drewN | apply below_drew1 | refine below_set ?_ GE146.out | refine below_set ?_ GE147.out) | exact HB.out)⟩
        · replace c7 := Bool.eq_false_iff.mpr c7
          subst c7
          have H1 : (some false) = some r := by rw [if_neg (show ¬ (false = true) by decide)] at H; exact H
          clear H
          have H := H1
          clear H1
          obtain rfl := Option.some.inj H
          go_enter Tryz.func65, Tryz.ntmps65
          go_wp2_with (first | ((with_reducible refine gate_dst (N := 2) rfl ?_); refine box_event ?hg (N := 2) ?hd (cs := #[.int .i64 a0_0, .int .i64 a0_1, .string a0_2, .slice A0_3 l0_3.length c0_3, .slice A0_4 l0_4.length c0_4, .int .i64 a0_5, .string a0_6, .slice A0_7 l0_7.length c0_7, .int .i64 a0_8, .string a0_9, .int .i64 a0_10, .bool a0_11]) (t := 32) ?hr ?_; (case hd => rfl); (case hg => rfl); (case hr => first | (go_simp; done) | (go_simp; rfl)); intro gb146 hg w22 hbox hb; have n0_ := Aside0.mk (below_step (by repeat (first | (with_reducible first | exact HB.out | apply below_alloc | apply pw_below_drewN | apply below_drew1) | exact HB.out)) hb); have n1_ := Aside0.mk (hbox); have n2_ := Aside0.mk ((by rw [hg]; exact (below_size (by repeat (first | (with_reducible first | exact HB.out | apply below_alloc | apply pw_below_drewN | apply below_drew1) | exact HB.out))) : w.heap.size ≤ gb146)); have n3_ := Aside0.mk ((by rw [hg]; exact (below_size (by repeat (first | (with_reducible first | exact HB.out | apply below_alloc | apply pw_below_drewN | apply below_drew1) | exact HB.out))) : w.heap.size ≤ gb146)); clear HB; have HB := n0_; have BK146 := n1_; have GW146 := n2_; have GE146 := n3_; clear n0_ n1_ n2_ n3_; clear hb hbox hg) | ((with_reducible refine gate_dst (N := 3) rfl ?_); refine box_event ?hg (N := 3) ?hd (cs := #[.int .i64 a1_0, .int .i64 a1_1, .string a1_2, .slice A1_3 l1_3.length c1_3, .slice A1_4 l1_4.length c1_4, .int .i64 a1_5, .string a1_6, .slice A1_7 l1_7.length c1_7, .int .i64 a1_8, .string a1_9, .int .i64 a1_10, .bool a1_11]) (t := 32) ?hr ?_; (case hd => rfl); (case hg => rfl); (case hr => first | (go_simp; done) | (go_simp; rfl)); intro gb147 hg w23 hbox hb; have n0_ := Aside0.mk (blk_below (g := gb146) (o := .cells #[.int .i64 a0_0, .int .i64 a0_1, .string a0_2, .slice A0_3 l0_3.length c0_3, .slice A0_4 l0_4.length c0_4, .int .i64 a0_5, .string a0_6, .slice A0_7 l0_7.length c0_7, .int .i64 a0_8, .string a0_9, .int .i64 a0_10, .bool a0_11] 32 (0, 0)) (by (with_reducible repeat (first | refine blk_drewN ?_ _ | refine blk_drew ?_ | refine blk_alloc ?_ _)); exact BK146.out) hb); have n1_ := Aside0.mk (below_step (by repeat (first | (with_reducible first | exact HB.out | apply below_alloc | apply pw_below_drewN | apply below_drew1 | refine below_set ?_ GE146.out) | exact HB.out)) hb); have n2_ := Aside0.mk (hbox); have n3_ := Aside0.mk ((by rw [hg]; exact (below_size (by repeat (first | (with_reducible first | exact HB.out | apply below_alloc | apply pw_below_drewN | apply below_drew1 | refine below_set ?_ GE146.out) | exact HB.out))) : w.heap.size ≤ gb147)); have n4_ := Aside0.mk ((by rw [hg]; exact (below_size (by repeat (first | (with_reducible first | exact HB.out | apply below_alloc | apply pw_below_drewN | apply below_drew1 | refine below_set ?_ GE146.out) | exact HB.out))) : w.heap.size ≤ gb147)); have n5_ := Aside0.mk ((by rw [hg]; exact Nat.ne_of_lt (blk_lt (g := gb146) (o := .cells #[.int .i64 a0_0, .int .i64 a0_1, .string a0_2, .slice A0_3 l0_3.length c0_3, .slice A0_4 l0_4.length c0_4, .int .i64 a0_5, .string a0_6, .slice A0_7 l0_7.length c0_7, .int .i64 a0_8, .string a0_9, .int .i64 a0_10, .bool a0_11] 32 (0, 0)) (by (with_reducible repeat (first | refine blk_drewN ?_ _ | refine blk_drew ?_ | refine blk_alloc ?_ _)); exact BK146.out)) : gb146 ≠ gb147)); have n6_ := Aside0.mk ((by rw [hg]; exact Nat.ne_of_gt (blk_lt (g := gb146) (o := .cells #[.int .i64 a0_0, .int .i64 a0_1, .string a0_2, .slice A0_3 l0_3.length c0_3, .slice A0_4 l0_4.length c0_4, .int .i64 a0_5, .string a0_6, .slice A0_7 l0_7.length c0_7, .int .i64 a0_8, .string a0_9, .int .i64 a0_10, .bool a0_11] 32 (0, 0)) (by (with_reducible repeat (first | refine blk_drewN ?_ _ | refine blk_drew ?_ | refine blk_alloc ?_ _)); exact BK146.out)) : gb147 ≠ gb146)); clear BK146; clear HB; have BK146 := n0_; have HB := n1_; have BK147 := n2_; have GW147 := n3_; have GE147 := n4_; have NB146_147 := n5_; have NB147_146 := n6_; clear n0_ n1_ n2_ n3_ n4_ n5_ n6_; clear hb hbox hg; have hnb24 := NB146_147.out; have hnc24 := NB147_146.out; have hcz25_0 : w23.cell? ⟨gb146, 0, none⟩ = some (.int .i64 a0_0) := (blk_cell BK146.out 0).trans rfl; have hcz25_1 : w23.cell? ⟨gb146, 1, none⟩ = some (.int .i64 a0_1) := (blk_cell BK146.out 1).trans rfl; have hcz25_2 : w23.cell? ⟨gb146, 2, none⟩ = some (.string a0_2) := (blk_cell BK146.out 2).trans rfl; have hcz25_3 : w23.cell? ⟨gb146, 3, none⟩ = some (.slice A0_3 l0_3.length c0_3) := (blk_cell BK146.out 3).trans rfl; have hcz25_4 : w23.cell? ⟨gb146, 4, none⟩ = some (.slice A0_4 l0_4.length c0_4) := (blk_cell BK146.out 4).trans rfl; have hcz25_5 : w23.cell? ⟨gb146, 5, none⟩ = some (.int .i64 a0_5) := (blk_cell BK146.out 5).trans rfl; have hcz25_6 : w23.cell? ⟨gb146, 6, none⟩ = some (.string a0_6) := (blk_cell BK146.out 6).trans rfl; have hcz25_7 : w23.cell? ⟨gb146, 7, none⟩ = some (.slice A0_7 l0_7.length c0_7) := (blk_cell BK146.out 7).trans rfl; have hcz25_8 : w23.cell? ⟨gb146, 8, none⟩ = some (.int .i64 a0_8) := (blk_cell BK146.out 8).trans rfl; have hcz25_9 : w23.cell? ⟨gb146, 9, none⟩ = some (.string a0_9) := (blk_cell BK146.out 9).trans rfl; have hcz25_10 : w23.cell? ⟨gb146, 10, none⟩ = some (.int .i64 a0_10) := (blk_cell BK146.out 10).trans rfl; have hcz25_11 : w23.cell? ⟨gb146, 11, none⟩ = some (.bool a0_11) := (blk_cell BK146.out 11).trans rfl; have hfz25_0 := blk_frozen BK146.out 0; have hfz25_1 := blk_frozen BK146.out 1; have hfz25_2 := blk_frozen BK146.out 2; have hfz25_3 := blk_frozen BK146.out 3; have hfz25_4 := blk_frozen BK146.out 4; have hfz25_5 := blk_frozen BK146.out 5; have hfz25_6 := blk_frozen BK146.out 6; have hfz25_7 := blk_frozen BK146.out 7; have hfz25_8 := blk_frozen BK146.out 8; have hfz25_9 := blk_frozen BK146.out 9; have hfz25_10 := blk_frozen BK146.out 10; have hfz25_11 := blk_frozen BK146.out 11; have hcz26_0 : w23.cell? ⟨gb147, 0, none⟩ = some (.int .i64 a1_0) := (blk_cell BK147.out 0).trans rfl; have hcz26_1 : w23.cell? ⟨gb147, 1, none⟩ = some (.int .i64 a1_1) := (blk_cell BK147.out 1).trans rfl; have hcz26_2 : w23.cell? ⟨gb147, 2, none⟩ = some (.string a1_2) := (blk_cell BK147.out 2).trans rfl; have hcz26_3 : w23.cell? ⟨gb147, 3, none⟩ = some (.slice A1_3 l1_3.length c1_3) := (blk_cell BK147.out 3).trans rfl; have hcz26_4 : w23.cell? ⟨gb147, 4, none⟩ = some (.slice A1_4 l1_4.length c1_4) := (blk_cell BK147.out 4).trans rfl; have hcz26_5 : w23.cell? ⟨gb147, 5, none⟩ = some (.int .i64 a1_5) := (blk_cell BK147.out 5).trans rfl; have hcz26_6 : w23.cell? ⟨gb147, 6, none⟩ = some (.string a1_6) := (blk_cell BK147.out 6).trans rfl; have hcz26_7 : w23.cell? ⟨gb147, 7, none⟩ = some (.slice A1_7 l1_7.length c1_7) := (blk_cell BK147.out 7).trans rfl; have hcz26_8 : w23.cell? ⟨gb147, 8, none⟩ = some (.int .i64 a1_8) := (blk_cell BK147.out 8).trans rfl; have hcz26_9 : w23.cell? ⟨gb147, 9, none⟩ = some (.string a1_9) := (blk_cell BK147.out 9).trans rfl; have hcz26_10 : w23.cell? ⟨gb147, 10, none⟩ = some (.int .i64 a1_10) := (blk_cell BK147.out 10).trans rfl; have hcz26_11 : w23.cell? ⟨gb147, 11, none⟩ = some (.bool a1_11) := (blk_cell BK147.out 11).trans rfl; have hfz26_0 := blk_frozen BK147.out 0; have hfz26_1 := blk_frozen BK147.out 1; have hfz26_2 := blk_frozen BK147.out 2; have hfz26_3 := blk_frozen BK147.out 3; have hfz26_4 := blk_frozen BK147.out 4; have hfz26_5 := blk_frozen BK147.out 5; have hfz26_6 := blk_frozen BK147.out 6; have hfz26_7 := blk_frozen BK147.out 7; have hfz26_8 := blk_frozen BK147.out 8; have hfz26_9 := blk_frozen BK147.out 9; have hfz26_10 := blk_frozen BK147.out 10; have hfz26_11 := blk_frozen BK147.out 11) | (go_at_call 107; (with_reducible refine (api_Value_107.calls k _ _ l0_3 _ _ l1_3 false _ ?side1 ?side2 ?side3 ?side4 A6.out).mono ?_); (case side1 => repeat (first | exact (Kd.C_below HR0_3.out HB.out) | (with_reducible refine Kd.C_alloc ?_ _) | (with_reducible refine Kd.C_drewN ?_ _) | (with_reducible refine Kd.C_drew ?_))); (case side2 => exact HC0_3.out); (case side3 => repeat (first | exact (Kd.C_below HR1_3.out HB.out) | (with_reducible refine Kd.C_alloc ?_ _) | (with_reducible refine Kd.C_drewN ?_ _) | (with_reducible refine Kd.C_drew ?_))); (case side4 => exact HC1_3.out); rintro e w' ⟨rfl, ⟨nd, rfl⟩⟩))
          go_ret
          exact ⟨by first | rfl | (simp [errW_none, errW_some] <;> rfl) | (simp [*, errW_none, errW_some] <;> rfl), by repeat (first | (with_reducible first | exact HB.out | apply below_alloc | apply pw_below_drewN | apply below_drew1 | refine below_set ?_ GE146.out | refine below_set ?_ GE147.out) | exact HB.out)⟩
      · rw [if_neg c5] at H
        have c5b0 : (a0_2.toList == a1_2.toList) = false := beq_eq_false_iff_ne.mpr c5
        have c5b1 : (a0_2.toList != a1_2.toList) = true := bne_iff_ne.mpr c5
        obtain rfl := Option.some.inj H
        go_enter Tryz.func65, Tryz.ntmps65
        go_wp2_with (first | ((with_reducible refine gate_dst (N := 2) rfl ?_); refine box_event ?hg (N := 2) ?hd (cs := #[.int .i64 a0_0, .int .i64 a0_1, .string a0_2, .slice A0_3 l0_3.length c0_3, .slice A0_4 l0_4.length c0_4, .int .i64 a0_5, .string a0_6, .slice A0_7 l0_7.length c0_7, .int .i64 a0_8, .string a0_9, .int .i64 a0_10, .bool a0_11]) (t := 32) ?hr ?_; (case hd => rfl); (case hg => rfl); (case hr => first | (go_simp; done) | (go_simp; rfl)); intro gb146 hg w27 hbox hb; have n0_ := Aside0.mk (below_step (by repeat (first | (with_reducible first | exact HB.out | apply below_alloc | apply pw_below_drewN | apply below_drew1) | exact HB.out)) hb); have n1_ := Aside0.mk (hbox); have n2_ := Aside0.mk ((by rw [hg]; exact (below_size (by repeat (first | (with_reducible first | exact HB.out | apply below_alloc | apply pw_below_drewN | apply below_drew1) | exact HB.out))) : w.heap.size ≤ gb146)); have n3_ := Aside0.mk ((by rw [hg]; exact (below_size (by repeat (first | (with_reducible first | exact HB.out | apply below_alloc | apply pw_below_drewN | apply below_drew1) | exact HB.out))) : w.heap.size ≤ gb146)); clear HB; have HB := n0_; have BK146 := n1_; have GW146 := n2_; have GE146 := n3_; clear n0_ n1_ n2_ n3_; clear hb hbox hg) | ((with_reducible refine gate_dst (N := 3) rfl ?_); refine box_event ?hg (N := 3) ?hd (cs := #[.int .i64 a1_0, .int .i64 a1_1, .string a1_2, .slice A1_3 l1_3.length c1_3, .slice A1_4 l1_4.length c1_4, .int .i64 a1_5, .string a1_6, .slice A1_7 l1_7.length c1_7, .int .i64 a1_8, .string a1_9, .int .i64 a1_10, .bool a1_11]) (t := 32) ?hr ?_; (case hd => rfl); (case hg => rfl); (case hr => first | (go_simp; done) | (go_simp; rfl)); intro gb147 hg w28 hbox hb; have n0_ := Aside0.mk (blk_below (g := gb146) (o := .cells #[.int .i64 a0_0, .int .i64 a0_1, .string a0_2, .slice A0_3 l0_3.length c0_3, .slice A0_4 l0_4.length c0_4, .int .i64 a0_5, .string a0_6, .slice A0_7 l0_7.length c0_7, .int .i64 a0_8, .string a0_9, .int .i64 a0_10, .bool a0_11] 32 (0, 0)) (by (with_reducible repeat (first | refine blk_drewN ?_ _ | refine blk_drew ?_ | refine blk_alloc ?_ _)); exact BK146.out) hb); have n1_ := Aside0.mk (below_step (by repeat (first | (with_reducible first | exact HB.out | apply below_alloc | apply pw_below_drewN | apply below_drew1 | refine below_set ?_ GE146.out) | exact HB.out)) hb); have n2_ := Aside0.mk (hbox); have n3_ := Aside0.mk ((by rw [hg]; exact (below_size (by repeat (first | (with_reducible first | exact HB.out | apply below_alloc | apply pw_below_drewN | apply below_drew1 | refine below_set ?_ GE146.out) | exact HB.out))) : w.heap.size ≤ gb147)); have n4_ := Aside0.mk ((by rw [hg]; exact (below_size (by repeat (first | (with_reducible first | exact HB.out | apply below_alloc | apply pw_below_drewN | apply below_drew1 | refine below_set ?_ GE146.out) | exact HB.out))) : w.heap.size ≤ gb147)); have n5_ := Aside0.mk ((by rw [hg]; exact Nat.ne_of_lt (blk_lt (g := gb146) (o := .cells #[.int .i64 a0_0, .int .i64 a0_1, .string a0_2, .slice A0_3 l0_3.length c0_3, .slice A0_4 l0_4.length c0_4, .int .i64 a0_5, .string a0_6, .slice A0_7 l0_7.length c0_7, .int .i64 a0_8, .string a0_9, .int .i64 a0_10, .bool a0_11] 32 (0, 0)) (by (with_reducible repeat (first | refine blk_drewN ?_ _ | refine blk_drew ?_ | refine blk_alloc ?_ _)); exact BK146.out)) : gb146 ≠ gb147)); have n6_ := Aside0.mk ((by rw [hg]; exact Nat.ne_of_gt (blk_lt (g := gb146) (o := .cells #[.int .i64 a0_0, .int .i64 a0_1, .string a0_2, .slice A0_3 l0_3.length c0_3, .slice A0_4 l0_4.length c0_4, .int .i64 a0_5, .string a0_6, .slice A0_7 l0_7.length c0_7, .int .i64 a0_8, .string a0_9, .int .i64 a0_10, .bool a0_11] 32 (0, 0)) (by (with_reducible repeat (first | refine blk_drewN ?_ _ | refine blk_drew ?_ | refine blk_alloc ?_ _)); exact BK146.out)) : gb147 ≠ gb146)); clear BK146; clear HB; have BK146 := n0_; have HB := n1_; have BK147 := n2_; have GW147 := n3_; have GE147 := n4_; have NB146_147 := n5_; have NB147_146 := n6_; clear n0_ n1_ n2_ n3_ n4_ n5_ n6_; clear hb hbox hg; have hnb29 := NB146_147.out; have hnc29 := NB147_146.out; have hcz30_0 : w28.cell? ⟨gb146, 0, none⟩ = some (.int .i64 a0_0) := (blk_cell BK146.out 0).trans rfl; have hcz30_1 : w28.cell? ⟨gb146, 1, none⟩ = some (.int .i64 a0_1) := (blk_cell BK146.out 1).trans rfl; have hcz30_2 : w28.cell? ⟨gb146, 2, none⟩ = some (.string a0_2) := (blk_cell BK146.out 2).trans rfl; have hcz30_3 : w28.cell? ⟨gb146, 3, none⟩ = some (.slice A0_3 l0_3.length c0_3) := (blk_cell BK146.out 3).trans rfl; have hcz30_4 : w28.cell? ⟨gb146, 4, none⟩ = some (.slice A0_4 l0_4.length c0_4) := (blk_cell BK146.out 4).trans rfl; have hcz30_5 : w28.cell? ⟨gb146, 5, none⟩ = some (.int .i64 a0_5) := (blk_cell BK146.out 5).trans rfl; have hcz30_6 : w28.cell? ⟨gb146, 6, none⟩ = some (.string a0_6) := (blk_cell BK146.out 6).trans rfl; have hcz30_7 : w28.cell? ⟨gb146, 7, none⟩ = some (.slice A0_7 l0_7.length c0_7) := (blk_cell BK146.out 7).trans rfl; have hcz30_8 : w28.cell? ⟨gb146, 8, none⟩ = some (.int .i64 a0_8) := (blk_cell BK146.out 8).trans rfl; have hcz30_9 : w28.cell? ⟨gb146, 9, none⟩ = some (.string a0_9) := (blk_cell BK146.out 9).trans rfl; have hcz30_10 : w28.cell? ⟨gb146, 10, none⟩ = some (.int .i64 a0_10) := (blk_cell BK146.out 10).trans rfl; have hcz30_11 : w28.cell? ⟨gb146, 11, none⟩ = some (.bool a0_11) := (blk_cell BK146.out 11).trans rfl; have hfz30_0 := blk_frozen BK146.out 0; have hfz30_1 := blk_frozen BK146.out 1; have hfz30_2 := blk_frozen BK146.out 2; have hfz30_3 := blk_frozen BK146.out 3; have hfz30_4 := blk_frozen BK146.out 4; have hfz30_5 := blk_frozen BK146.out 5; have hfz30_6 := blk_frozen BK146.out 6; have hfz30_7 := blk_frozen BK146.out 7; have hfz30_8 := blk_frozen BK146.out 8; have hfz30_9 := blk_frozen BK146.out 9; have hfz30_10 := blk_frozen BK146.out 10; have hfz30_11 := blk_frozen BK146.out 11; have hcz31_0 : w28.cell? ⟨gb147, 0, none⟩ = some (.int .i64 a1_0) := (blk_cell BK147.out 0).trans rfl; have hcz31_1 : w28.cell? ⟨gb147, 1, none⟩ = some (.int .i64 a1_1) := (blk_cell BK147.out 1).trans rfl; have hcz31_2 : w28.cell? ⟨gb147, 2, none⟩ = some (.string a1_2) := (blk_cell BK147.out 2).trans rfl; have hcz31_3 : w28.cell? ⟨gb147, 3, none⟩ = some (.slice A1_3 l1_3.length c1_3) := (blk_cell BK147.out 3).trans rfl; have hcz31_4 : w28.cell? ⟨gb147, 4, none⟩ = some (.slice A1_4 l1_4.length c1_4) := (blk_cell BK147.out 4).trans rfl; have hcz31_5 : w28.cell? ⟨gb147, 5, none⟩ = some (.int .i64 a1_5) := (blk_cell BK147.out 5).trans rfl; have hcz31_6 : w28.cell? ⟨gb147, 6, none⟩ = some (.string a1_6) := (blk_cell BK147.out 6).trans rfl; have hcz31_7 : w28.cell? ⟨gb147, 7, none⟩ = some (.slice A1_7 l1_7.length c1_7) := (blk_cell BK147.out 7).trans rfl; have hcz31_8 : w28.cell? ⟨gb147, 8, none⟩ = some (.int .i64 a1_8) := (blk_cell BK147.out 8).trans rfl; have hcz31_9 : w28.cell? ⟨gb147, 9, none⟩ = some (.string a1_9) := (blk_cell BK147.out 9).trans rfl; have hcz31_10 : w28.cell? ⟨gb147, 10, none⟩ = some (.int .i64 a1_10) := (blk_cell BK147.out 10).trans rfl; have hcz31_11 : w28.cell? ⟨gb147, 11, none⟩ = some (.bool a1_11) := (blk_cell BK147.out 11).trans rfl; have hfz31_0 := blk_frozen BK147.out 0; have hfz31_1 := blk_frozen BK147.out 1; have hfz31_2 := blk_frozen BK147.out 2; have hfz31_3 := blk_frozen BK147.out 3; have hfz31_4 := blk_frozen BK147.out 4; have hfz31_5 := blk_frozen BK147.out 5; have hfz31_6 := blk_frozen BK147.out 6; have hfz31_7 := blk_frozen BK147.out 7; have hfz31_8 := blk_frozen BK147.out 8; have hfz31_9 := blk_frozen BK147.out 9; have hfz31_10 := blk_frozen BK147.out 10; have hfz31_11 := blk_frozen BK147.out 11))
        go_ret
        exact ⟨by first | rfl | (simp [errW_none, errW_some] <;> rfl) | (simp [*, errW_none, errW_some] <;> rfl), by repeat (first | (with_reducible first | exact HB.out | apply below_alloc | apply pw_below_drewN | apply below_drew1 | refine below_set ?_ GE146.out | refine below_set ?_ GE147.out) | exact HB.out)⟩
    · rw [if_neg c4] at H
      have c4b0 : (a0_1 == a1_1) = false := beq_eq_false_iff_ne.mpr c4
      have c4b1 : (a0_1 != a1_1) = true := bne_iff_ne.mpr c4
      obtain rfl := Option.some.inj H
      go_enter Tryz.func65, Tryz.ntmps65
      go_wp2_with (first | ((with_reducible refine gate_dst (N := 2) rfl ?_); refine box_event ?hg (N := 2) ?hd (cs := #[.int .i64 a0_0, .int .i64 a0_1, .string a0_2, .slice A0_3 l0_3.length c0_3, .slice A0_4 l0_4.length c0_4, .int .i64 a0_5, .string a0_6, .slice A0_7 l0_7.length c0_7, .int .i64 a0_8, .string a0_9, .int .i64 a0_10, .bool a0_11]) (t := 32) ?hr ?_; (case hd => rfl); (case hg => rfl); (case hr => first | (go_simp; done) | (go_simp; rfl)); intro gb146 hg w32 hbox hb; have n0_ := Aside0.mk (below_step (by repeat (first | (with_reducible first | exact HB.out | apply below_alloc | apply pw_below_drewN | apply below_drew1) | exact HB.out)) hb); have n1_ := Aside0.mk (hbox); have n2_ := Aside0.mk ((by rw [hg]; exact (below_size (by repeat (first | (with_reducible first | exact HB.out | apply below_alloc | apply pw_below_drewN | apply below_drew1) | exact HB.out))) : w.heap.size ≤ gb146)); have n3_ := Aside0.mk ((by rw [hg]; exact (below_size (by repeat (first | (with_reducible first | exact HB.out | apply below_alloc | apply pw_below_drewN | apply below_drew1) | exact HB.out))) : w.heap.size ≤ gb146)); clear HB; have HB := n0_; have BK146 := n1_; have GW146 := n2_; have GE146 := n3_; clear n0_ n1_ n2_ n3_; clear hb hbox hg) | ((with_reducible refine gate_dst (N := 3) rfl ?_); refine box_event ?hg (N := 3) ?hd (cs := #[.int .i64 a1_0, .int .i64 a1_1, .string a1_2, .slice A1_3 l1_3.length c1_3, .slice A1_4 l1_4.length c1_4, .int .i64 a1_5, .string a1_6, .slice A1_7 l1_7.length c1_7, .int .i64 a1_8, .string a1_9, .int .i64 a1_10, .bool a1_11]) (t := 32) ?hr ?_; (case hd => rfl); (case hg => rfl); (case hr => first | (go_simp; done) | (go_simp; rfl)); intro gb147 hg w33 hbox hb; have n0_ := Aside0.mk (blk_below (g := gb146) (o := .cells #[.int .i64 a0_0, .int .i64 a0_1, .string a0_2, .slice A0_3 l0_3.length c0_3, .slice A0_4 l0_4.length c0_4, .int .i64 a0_5, .string a0_6, .slice A0_7 l0_7.length c0_7, .int .i64 a0_8, .string a0_9, .int .i64 a0_10, .bool a0_11] 32 (0, 0)) (by (with_reducible repeat (first | refine blk_drewN ?_ _ | refine blk_drew ?_ | refine blk_alloc ?_ _)); exact BK146.out) hb); have n1_ := Aside0.mk (below_step (by repeat (first | (with_reducible first | exact HB.out | apply below_alloc | apply pw_below_drewN | apply below_drew1 | refine below_set ?_ GE146.out) | exact HB.out)) hb); have n2_ := Aside0.mk (hbox); have n3_ := Aside0.mk ((by rw [hg]; exact (below_size (by repeat (first | (with_reducible first | exact HB.out | apply below_alloc | apply pw_below_drewN | apply below_drew1 | refine below_set ?_ GE146.out) | exact HB.out))) : w.heap.size ≤ gb147)); have n4_ := Aside0.mk ((by rw [hg]; exact (below_size (by repeat (first | (with_reducible first | exact HB.out | apply below_alloc | apply pw_below_drewN | apply below_drew1 | refine below_set ?_ GE146.out) | exact HB.out))) : w.heap.size ≤ gb147)); have n5_ := Aside0.mk ((by rw [hg]; exact Nat.ne_of_lt (blk_lt (g := gb146) (o := .cells #[.int .i64 a0_0, .int .i64 a0_1, .string a0_2, .slice A0_3 l0_3.length c0_3, .slice A0_4 l0_4.length c0_4, .int .i64 a0_5, .string a0_6, .slice A0_7 l0_7.length c0_7, .int .i64 a0_8, .string a0_9, .int .i64 a0_10, .bool a0_11] 32 (0, 0)) (by (with_reducible repeat (first | refine blk_drewN ?_ _ | refine blk_drew ?_ | refine blk_alloc ?_ _)); exact BK146.out)) : gb146 ≠ gb147)); have n6_ := Aside0.mk ((by rw [hg]; exact Nat.ne_of_gt (blk_lt (g := gb146) (o := .cells #[.int .i64 a0_0, .int .i64 a0_1, .string a0_2, .slice A0_3 l0_3.length c0_3, .slice A0_4 l0_4.length c0_4, .int .i64 a0_5, .string a0_6, .slice A0_7 l0_7.length c0_7, .int .i64 a0_8, .string a0_9, .int .i64 a0_10, .bool a0_11] 32 (0, 0)) (by (with_reducible repeat (first | refine blk_drewN ?_ _ | refine blk_drew ?_ | refine blk_alloc ?_ _)); exact BK146.out)) : gb147 ≠ gb146)); clear BK146; clear HB; have BK146 := n0_; have HB := n1_; have BK147 := n2_; have GW147 := n3_; have GE147 := n4_; have NB146_147 := n5_; have NB147_146 := n6_; clear n0_ n1_ n2_ n3_ n4_ n5_ n6_; clear hb hbox hg; have hnb34 := NB146_147.out; have hnc34 := NB147_146.out; have hcz35_0 : w33.cell? ⟨gb146, 0, none⟩ = some (.int .i64 a0_0) := (blk_cell BK146.out 0).trans rfl; have hcz35_1 : w33.cell? ⟨gb146, 1, none⟩ = some (.int .i64 a0_1) := (blk_cell BK146.out 1).trans rfl; have hcz35_2 : w33.cell? ⟨gb146, 2, none⟩ = some (.string a0_2) := (blk_cell BK146.out 2).trans rfl; have hcz35_3 : w33.cell? ⟨gb146, 3, none⟩ = some (.slice A0_3 l0_3.length c0_3) := (blk_cell BK146.out 3).trans rfl; have hcz35_4 : w33.cell? ⟨gb146, 4, none⟩ = some (.slice A0_4 l0_4.length c0_4) := (blk_cell BK146.out 4).trans rfl; have hcz35_5 : w33.cell? ⟨gb146, 5, none⟩ = some (.int .i64 a0_5) := (blk_cell BK146.out 5).trans rfl; have hcz35_6 : w33.cell? ⟨gb146, 6, none⟩ = some (.string a0_6) := (blk_cell BK146.out 6).trans rfl; have hcz35_7 : w33.cell? ⟨gb146, 7, none⟩ = some (.slice A0_7 l0_7.length c0_7) := (blk_cell BK146.out 7).trans rfl; have hcz35_8 : w33.cell? ⟨gb146, 8, none⟩ = some (.int .i64 a0_8) := (blk_cell BK146.out 8).trans rfl; have hcz35_9 : w33.cell? ⟨gb146, 9, none⟩ = some (.string a0_9) := (blk_cell BK146.out 9).trans rfl; have hcz35_10 : w33.cell? ⟨gb146, 10, none⟩ = some (.int .i64 a0_10) := (blk_cell BK146.out 10).trans rfl; have hcz35_11 : w33.cell? ⟨gb146, 11, none⟩ = some (.bool a0_11) := (blk_cell BK146.out 11).trans rfl; have hfz35_0 := blk_frozen BK146.out 0; have hfz35_1 := blk_frozen BK146.out 1; have hfz35_2 := blk_frozen BK146.out 2; have hfz35_3 := blk_frozen BK146.out 3; have hfz35_4 := blk_frozen BK146.out 4; have hfz35_5 := blk_frozen BK146.out 5; have hfz35_6 := blk_frozen BK146.out 6; have hfz35_7 := blk_frozen BK146.out 7; have hfz35_8 := blk_frozen BK146.out 8; have hfz35_9 := blk_frozen BK146.out 9; have hfz35_10 := blk_frozen BK146.out 10; have hfz35_11 := blk_frozen BK146.out 11; have hcz36_0 : w33.cell? ⟨gb147, 0, none⟩ = some (.int .i64 a1_0) := (blk_cell BK147.out 0).trans rfl; have hcz36_1 : w33.cell? ⟨gb147, 1, none⟩ = some (.int .i64 a1_1) := (blk_cell BK147.out 1).trans rfl; have hcz36_2 : w33.cell? ⟨gb147, 2, none⟩ = some (.string a1_2) := (blk_cell BK147.out 2).trans rfl; have hcz36_3 : w33.cell? ⟨gb147, 3, none⟩ = some (.slice A1_3 l1_3.length c1_3) := (blk_cell BK147.out 3).trans rfl; have hcz36_4 : w33.cell? ⟨gb147, 4, none⟩ = some (.slice A1_4 l1_4.length c1_4) := (blk_cell BK147.out 4).trans rfl; have hcz36_5 : w33.cell? ⟨gb147, 5, none⟩ = some (.int .i64 a1_5) := (blk_cell BK147.out 5).trans rfl; have hcz36_6 : w33.cell? ⟨gb147, 6, none⟩ = some (.string a1_6) := (blk_cell BK147.out 6).trans rfl; have hcz36_7 : w33.cell? ⟨gb147, 7, none⟩ = some (.slice A1_7 l1_7.length c1_7) := (blk_cell BK147.out 7).trans rfl; have hcz36_8 : w33.cell? ⟨gb147, 8, none⟩ = some (.int .i64 a1_8) := (blk_cell BK147.out 8).trans rfl; have hcz36_9 : w33.cell? ⟨gb147, 9, none⟩ = some (.string a1_9) := (blk_cell BK147.out 9).trans rfl; have hcz36_10 : w33.cell? ⟨gb147, 10, none⟩ = some (.int .i64 a1_10) := (blk_cell BK147.out 10).trans rfl; have hcz36_11 : w33.cell? ⟨gb147, 11, none⟩ = some (.bool a1_11) := (blk_cell BK147.out 11).trans rfl; have hfz36_0 := blk_frozen BK147.out 0; have hfz36_1 := blk_frozen BK147.out 1; have hfz36_2 := blk_frozen BK147.out 2; have hfz36_3 := blk_frozen BK147.out 3; have hfz36_4 := blk_frozen BK147.out 4; have hfz36_5 := blk_frozen BK147.out 5; have hfz36_6 := blk_frozen BK147.out 6; have hfz36_7 := blk_frozen BK147.out 7; have hfz36_8 := blk_frozen BK147.out 8; have hfz36_9 := blk_frozen BK147.out 9; have hfz36_10 := blk_frozen BK147.out 10; have hfz36_11 := blk_frozen BK147.out 11))
      go_ret
      exact ⟨by first | rfl | (simp [errW_none, errW_some] <;> rfl) | (simp [*, errW_none, errW_some] <;> rfl), by repeat (first | (with_reducible first | exact HB.out | apply below_alloc | apply pw_below_drewN | apply below_drew1 | refine below_set ?_ GE146.out | refine below_set ?_ GE147.out) | exact HB.out)⟩
  · rw [if_neg c3] at H
    have c3b0 : (a0_0 == a1_0) = false := beq_eq_false_iff_ne.mpr c3
    have c3b1 : (a0_0 != a1_0) = true := bne_iff_ne.mpr c3
    obtain rfl := Option.some.inj H
    go_enter Tryz.func65, Tryz.ntmps65
    go_wp2_with (first | ((with_reducible refine gate_dst (N := 2) rfl ?_); refine box_event ?hg (N := 2) ?hd (cs := #[.int .i64 a0_0, .int .i64 a0_1, .string a0_2, .slice A0_3 l0_3.length c0_3, .slice A0_4 l0_4.length c0_4, .int .i64 a0_5, .string a0_6, .slice A0_7 l0_7.length c0_7, .int .i64 a0_8, .string a0_9, .int .i64 a0_10, .bool a0_11]) (t := 32) ?hr ?_; (case hd => rfl); (case hg => rfl); (case hr => first | (go_simp; done) | (go_simp; rfl)); intro gb146 hg w37 hbox hb; have n0_ := Aside0.mk (below_step (by repeat (first | (with_reducible first | exact HB.out | apply below_alloc | apply pw_below_drewN | apply below_drew1) | exact HB.out)) hb); have n1_ := Aside0.mk (hbox); have n2_ := Aside0.mk ((by rw [hg]; exact (below_size (by repeat (first | (with_reducible first | exact HB.out | apply below_alloc | apply pw_below_drewN | apply below_drew1) | exact HB.out))) : w.heap.size ≤ gb146)); have n3_ := Aside0.mk ((by rw [hg]; exact (below_size (by repeat (first | (with_reducible first | exact HB.out | apply below_alloc | apply pw_below_drewN | apply below_drew1) | exact HB.out))) : w.heap.size ≤ gb146)); clear HB; have HB := n0_; have BK146 := n1_; have GW146 := n2_; have GE146 := n3_; clear n0_ n1_ n2_ n3_; clear hb hbox hg) | ((with_reducible refine gate_dst (N := 3) rfl ?_); refine box_event ?hg (N := 3) ?hd (cs := #[.int .i64 a1_0, .int .i64 a1_1, .string a1_2, .slice A1_3 l1_3.length c1_3, .slice A1_4 l1_4.length c1_4, .int .i64 a1_5, .string a1_6, .slice A1_7 l1_7.length c1_7, .int .i64 a1_8, .string a1_9, .int .i64 a1_10, .bool a1_11]) (t := 32) ?hr ?_; (case hd => rfl); (case hg => rfl); (case hr => first | (go_simp; done) | (go_simp; rfl)); intro gb147 hg w38 hbox hb; have n0_ := Aside0.mk (blk_below (g := gb146) (o := .cells #[.int .i64 a0_0, .int .i64 a0_1, .string a0_2, .slice A0_3 l0_3.length c0_3, .slice A0_4 l0_4.length c0_4, .int .i64 a0_5, .string a0_6, .slice A0_7 l0_7.length c0_7, .int .i64 a0_8, .string a0_9, .int .i64 a0_10, .bool a0_11] 32 (0, 0)) (by (with_reducible repeat (first | refine blk_drewN ?_ _ | refine blk_drew ?_ | refine blk_alloc ?_ _)); exact BK146.out) hb); have n1_ := Aside0.mk (below_step (by repeat (first | (with_reducible first | exact HB.out | apply below_alloc | apply pw_below_drewN | apply below_drew1 | refine below_set ?_ GE146.out) | exact HB.out)) hb); have n2_ := Aside0.mk (hbox); have n3_ := Aside0.mk ((by rw [hg]; exact (below_size (by repeat (first | (with_reducible first | exact HB.out | apply below_alloc | apply pw_below_drewN | apply below_drew1 | refine below_set ?_ GE146.out) | exact HB.out))) : w.heap.size ≤ gb147)); have n4_ := Aside0.mk ((by rw [hg]; exact (below_size (by repeat (first | (with_reducible first | exact HB.out | apply below_alloc | apply pw_below_drewN | apply below_drew1 | refine below_set ?_ GE146.out) | exact HB.out))) : w.heap.size ≤ gb147)); have n5_ := Aside0.mk ((by rw [hg]; exact Nat.ne_of_lt (blk_lt (g := gb146) (o := .cells #[.int .i64 a0_0, .int .i64 a0_1, .string a0_2, .slice A0_3 l0_3.length c0_3, .slice A0_4 l0_4.length c0_4, .int .i64 a0_5, .string a0_6, .slice A0_7 l0_7.length c0_7, .int .i64 a0_8, .string a0_9, .int .i64 a0_10, .bool a0_11] 32 (0, 0)) (by (with_reducible repeat (first | refine blk_drewN ?_ _ | refine blk_drew ?_ | refine blk_alloc ?_ _)); exact BK146.out)) : gb146 ≠ gb147)); have n6_ := Aside0.mk ((by rw [hg]; exact Nat.ne_of_gt (blk_lt (g := gb146) (o := .cells #[.int .i64 a0_0, .int .i64 a0_1, .string a0_2, .slice A0_3 l0_3.length c0_3, .slice A0_4 l0_4.length c0_4, .int .i64 a0_5, .string a0_6, .slice A0_7 l0_7.length c0_7, .int .i64 a0_8, .string a0_9, .int .i64 a0_10, .bool a0_11] 32 (0, 0)) (by (with_reducible repeat (first | refine blk_drewN ?_ _ | refine blk_drew ?_ | refine blk_alloc ?_ _)); exact BK146.out)) : gb147 ≠ gb146)); clear BK146; clear HB; have BK146 := n0_; have HB := n1_; have BK147 := n2_; have GW147 := n3_; have GE147 := n4_; have NB146_147 := n5_; have NB147_146 := n6_; clear n0_ n1_ n2_ n3_ n4_ n5_ n6_; clear hb hbox hg; have hnb39 := NB146_147.out; have hnc39 := NB147_146.out; have hcz40_0 : w38.cell? ⟨gb146, 0, none⟩ = some (.int .i64 a0_0) := (blk_cell BK146.out 0).trans rfl; have hcz40_1 : w38.cell? ⟨gb146, 1, none⟩ = some (.int .i64 a0_1) := (blk_cell BK146.out 1).trans rfl; have hcz40_2 : w38.cell? ⟨gb146, 2, none⟩ = some (.string a0_2) := (blk_cell BK146.out 2).trans rfl; have hcz40_3 : w38.cell? ⟨gb146, 3, none⟩ = some (.slice A0_3 l0_3.length c0_3) := (blk_cell BK146.out 3).trans rfl; have hcz40_4 : w38.cell? ⟨gb146, 4, none⟩ = some (.slice A0_4 l0_4.length c0_4) := (blk_cell BK146.out 4).trans rfl; have hcz40_5 : w38.cell? ⟨gb146, 5, none⟩ = some (.int .i64 a0_5) := (blk_cell BK146.out 5).trans rfl; have hcz40_6 : w38.cell? ⟨gb146, 6, none⟩ = some (.string a0_6) := (blk_cell BK146.out 6).trans rfl; have hcz40_7 : w38.cell? ⟨gb146, 7, none⟩ = some (.slice A0_7 l0_7.length c0_7) := (blk_cell BK146.out 7).trans rfl; have hcz40_8 : w38.cell? ⟨gb146, 8, none⟩ = some (.int .i64 a0_8) := (blk_cell BK146.out 8).trans rfl; have hcz40_9 : w38.cell? ⟨gb146, 9, none⟩ = some (.string a0_9) := (blk_cell BK146.out 9).trans rfl; have hcz40_10 : w38.cell? ⟨gb146, 10, none⟩ = some (.int .i64 a0_10) := (blk_cell BK146.out 10).trans rfl; have hcz40_11 : w38.cell? ⟨gb146, 11, none⟩ = some (.bool a0_11) := (blk_cell BK146.out 11).trans rfl; have hfz40_0 := blk_frozen BK146.out 0; have hfz40_1 := blk_frozen BK146.out 1; have hfz40_2 := blk_frozen BK146.out 2; have hfz40_3 := blk_frozen BK146.out 3; have hfz40_4 := blk_frozen BK146.out 4; have hfz40_5 := blk_frozen BK146.out 5; have hfz40_6 := blk_frozen BK146.out 6; have hfz40_7 := blk_frozen BK146.out 7; have hfz40_8 := blk_frozen BK146.out 8; have hfz40_9 := blk_frozen BK146.out 9; have hfz40_10 := blk_frozen BK146.out 10; have hfz40_11 := blk_frozen BK146.out 11; have hcz41_0 : w38.cell? ⟨gb147, 0, none⟩ = some (.int .i64 a1_0) := (blk_cell BK147.out 0).trans rfl; have hcz41_1 : w38.cell? ⟨gb147, 1, none⟩ = some (.int .i64 a1_1) := (blk_cell BK147.out 1).trans rfl; have hcz41_2 : w38.cell? ⟨gb147, 2, none⟩ = some (.string a1_2) := (blk_cell BK147.out 2).trans rfl; have hcz41_3 : w38.cell? ⟨gb147, 3, none⟩ = some (.slice A1_3 l1_3.length c1_3) := (blk_cell BK147.out 3).trans rfl; have hcz41_4 : w38.cell? ⟨gb147, 4, none⟩ = some (.slice A1_4 l1_4.length c1_4) := (blk_cell BK147.out 4).trans rfl; have hcz41_5 : w38.cell? ⟨gb147, 5, none⟩ = some (.int .i64 a1_5) := (blk_cell BK147.out 5).trans rfl; have hcz41_6 : w38.cell? ⟨gb147, 6, none⟩ = some (.string a1_6) := (blk_cell BK147.out 6).trans rfl; have hcz41_7 : w38.cell? ⟨gb147, 7, none⟩ = some (.slice A1_7 l1_7.length c1_7) := (blk_cell BK147.out 7).trans rfl; have hcz41_8 : w38.cell? ⟨gb147, 8, none⟩ = some (.int .i64 a1_8) := (blk_cell BK147.out 8).trans rfl; have hcz41_9 : w38.cell? ⟨gb147, 9, none⟩ = some (.string a1_9) := (blk_cell BK147.out 9).trans rfl; have hcz41_10 : w38.cell? ⟨gb147, 10, none⟩ = some (.int .i64 a1_10) := (blk_cell BK147.out 10).trans rfl; have hcz41_11 : w38.cell? ⟨gb147, 11, none⟩ = some (.bool a1_11) := (blk_cell BK147.out 11).trans rfl; have hfz41_0 := blk_frozen BK147.out 0; have hfz41_1 := blk_frozen BK147.out 1; have hfz41_2 := blk_frozen BK147.out 2; have hfz41_3 := blk_frozen BK147.out 3; have hfz41_4 := blk_frozen BK147.out 4; have hfz41_5 := blk_frozen BK147.out 5; have hfz41_6 := blk_frozen BK147.out 6; have hfz41_7 := blk_frozen BK147.out 7; have hfz41_8 := blk_frozen BK147.out 8; have hfz41_9 := blk_frozen BK147.out 9; have hfz41_10 := blk_frozen BK147.out 10; have hfz41_11 := blk_frozen BK147.out 11))
    go_ret
    exact ⟨by first | rfl | (simp [errW_none, errW_some] <;> rfl) | (simp [*, errW_none, errW_some] <;> rfl), by repeat (first | (with_reducible first | exact HB.out | apply below_alloc | apply pw_below_drewN | apply below_drew1 | refine below_set ?_ GE146.out | refine below_set ?_ GE147.out) | exact HB.out)⟩

/-! ### event_rowed: function 99 -/
def event_rowed.f (a0 : Int) : Option (Bool) := if a0 = 3 then (some true) else (if a0 = 4 then (some true) else (some (a0 == 5)))
set_option maxHeartbeats 8000000 in
set_option maxRecDepth 100000 in
theorem event_rowed.calls (a0 : Int) (r : Bool) (w : World) (h : event_rowed.f a0 = some r) :
    Calls Tryz.prog 99 #[.int .i64 a0] w fun e w' => e = .returned (.bool r) ∧ Drawn0 w w' := by
  have H : (if a0 = 3 then (some true) else (if a0 = 4 then (some true) else (some (a0 == 5)))) = some r := h
  clear h
  by_cases c2 : a0 = 3
  · rw [if_pos c2] at H
    have c2b0 : (a0 == 3) = true := beq_iff_eq.mpr c2
    have c2b1 : (a0 != 3) = false := bne_eq_false_iff_eq.mpr c2
    clear c2
    obtain rfl := Option.some.inj H
    go_enter Tryz.func99, Tryz.ntmps99
    go_wp2
    go_ret
    exact ⟨by first | rfl | (simp; done) | (simp [*]; done), by repeat (first | exact Drawn0.refl _ | apply Drawn0.step)⟩
  · rw [if_neg c2] at H
    have c2b0 : (a0 == 3) = false := beq_eq_false_iff_ne.mpr c2
    have c2b1 : (a0 != 3) = true := bne_iff_ne.mpr c2
    by_cases c3 : a0 = 4
    · rw [if_pos c3] at H
      have c3b0 : (a0 == 4) = true := beq_iff_eq.mpr c3
      have c3b1 : (a0 != 4) = false := bne_eq_false_iff_eq.mpr c3
      clear c3
      obtain rfl := Option.some.inj H
      go_enter Tryz.func99, Tryz.ntmps99
      go_wp2
      go_ret
      exact ⟨by first | rfl | (simp; done) | (simp [*]; done), by repeat (first | exact Drawn0.refl _ | apply Drawn0.step)⟩
    · rw [if_neg c3] at H
      have c3b0 : (a0 == 4) = false := beq_eq_false_iff_ne.mpr c3
      have c3b1 : (a0 != 4) = true := bne_iff_ne.mpr c3
      obtain rfl := Option.some.inj H
      go_enter Tryz.func99, Tryz.ntmps99
      go_wp2
      go_ret
      exact ⟨by first | rfl | (simp; done) | (simp [*]; done), by repeat (first | exact Drawn0.refl _ | apply Drawn0.step)⟩

-- NOT PRINTED: function 117 (api_Table_string)

-- NOT PRINTED: function 79 (event_at)

-- NOT PRINTED: function 123 (schema_Clone)

-- NOT PRINTED: function 96 (event_Find)

end Go.Proofs.YtapcoekakbbmcaaGreatDoor.PWalSame
