/- value.May and the document's May: whether a value may be. Conditions: the two tables of unicode/utf8 as laid; the text's length. -/
import Derived.Test.YtmdofdaiepilbaaGreatDoorRefUtf8
import Derived.Test.YtmdofdaiepilbaaGreatDoorGName
import Derived.RegionTactic
import Derived.BigQuiet
import Derived.Deep.QuietTactic
namespace Go.Proofs.YtmdofdaiepilbaaGreatDoor
open Go.RowKit Go.Proofs.YtmdofdaiepilbaaGreatDoorW.PrintWords Go.Proofs.YtmdofdaiepilbaaGreatDoorW.PrintMore
set_option linter.unusedVariables false
set_option linter.unusedSimpArgs false
def TabsU (w : World) : Prop := Lib.Utf8Tabs (Tryz.laysValid_ren.g 3) (Tryz.laysValid_ren.g 4) w
theorem TabsU.below {w w' : World} (h : TabsU w) (hb : Below w.heap.size w w') : TabsU w' :=
  ⟨fun c hc => pw_cell_below hb (h.1 c hc), fun i hi => ⟨pw_cell_below hb (h.2 i hi).1, pw_cell_below hb (h.2 i hi).2⟩⟩
theorem valid_calls (s : ByteArray) (hs : s.size ≤ 9223372036854775807) (w : World) (hT : TabsU w) : Calls Tryz.prog 113 #[.string s] w fun e w' => e = .returned (.bool (Lib.validD s.data.toList)) ∧ Below w.heap.size w w' :=
  Any.utf8_ValidString Tryz.laysValid s w hs hT
def valB (v : Val) : Bool :=
  if v.kind = 0 then decide (v.num = 0) && decide (v.text.size = 0)
  else if v.kind = 1 then (decide (v.num = 0) || decide (v.num = 1)) && decide (v.text.size = 0)
  else if v.kind = 2 then decide (v.text.size = 0)
  else if v.kind = 3 then decide (v.text.size ≤ 4096) && decide (v.num = 0) && Lib.validD v.text.data.toList
  else decide (v.kind = 4) && (decide (v.text.size ≤ 4096) && decide (v.num = 0))
theorem empty_iff (s : ByteArray) : s.toList.isEmpty = decide (s.size = 0) := by
  rw [ByteArray.toList_eq]
  cases hl : s.data.toList with
  | nil => have := congrArg List.length hl; have h2 : s.size = 0 := by simpa using this
           rw [h2]; rfl
  | cons a l => have := congrArg List.length hl; have h2 : s.size ≠ 0 := by simp at this; omega
                simp [h2]
theorem beq_dec (a b : Int) : (a == b) = decide (a = b) := by by_cases h : a = b <;> simp [h]
theorem le_dec (a : Nat) : decide ((a : Int) ≤ 4096) = decide (a ≤ 4096) := by
  by_cases h : a ≤ 4096
  · rw [decide_eq_true h, decide_eq_true (by omega)]
  · rw [decide_eq_false h, decide_eq_false (by omega)]
theorem valB_0 (n : Int) (s : ByteArray) : valB ⟨0, n, s⟩ = (decide (n = 0) && decide (s.size = 0)) := by unfold valB; simp
theorem valB_1 (n : Int) (s : ByteArray) : valB ⟨1, n, s⟩ = ((decide (n = 0) || decide (n = 1)) && decide (s.size = 0)) := by unfold valB; simp
theorem valB_2 (n : Int) (s : ByteArray) : valB ⟨2, n, s⟩ = decide (s.size = 0) := by unfold valB; simp
theorem valB_3 (n : Int) (s : ByteArray) : valB ⟨3, n, s⟩ = (decide (s.size ≤ 4096) && decide (n = 0) && Lib.validD s.data.toList) := by unfold valB; simp
theorem valB_4 (n : Int) (s : ByteArray) : valB ⟨4, n, s⟩ = (decide (s.size ≤ 4096) && decide (n = 0)) := by unfold valB; simp
theorem valB_no (k n : Int) (s : ByteArray) (h : k ≠ 0 ∧ k ≠ 1 ∧ k ≠ 2 ∧ k ≠ 3 ∧ k ≠ 4) : valB ⟨k, n, s⟩ = false := by unfold valB; simp [h.1, h.2.1, h.2.2.1, h.2.2.2.1, h.2.2.2.2]
set_option maxRecDepth 100000 in
set_option maxHeartbeats 8000000 in
theorem valMay_calls (k n : Int) (s : ByteArray) (w : World) (hT : TabsU w) :
    Calls Tryz.prog 94 #[.agg #[.int .i64 k, .int .i64 n, .string s]] w fun e w' => e = .returned (.bool (valB ⟨k, n, s⟩)) ∧ Below w.heap.size w w' := by
  have HB := Aside0.mk (show Below w.heap.size w (w.alloc (.cells #[.int .i64 k, .int .i64 n, .string s] 75)) from below_alloc (Below.refl _ _) _)
  have HT := Aside0.mk hT
  clear hT
  have he := empty_iff s
  have hn := beq_dec n 0
  have hn1 := beq_dec n 1
  have h4 := le_dec s.size
  have HV := Aside0.mk (fun (h : decide (s.size ≤ 4096) = true) => valid_calls s (by have := of_decide_eq_true h; omega) _ (HT.out.below HB.out))
  have H0 := Aside0.mk (valB_0 n s)
  have H1 := Aside0.mk (valB_1 n s)
  have H2 := Aside0.mk (valB_2 n s)
  have H3 := Aside0.mk (valB_3 n s)
  have H4 := Aside0.mk (valB_4 n s)
  have HN := Aside0.mk (valB_no k n s)
  generalize decide (s.size = 0) = be at *
  generalize hb4 : decide (s.size ≤ 4096) = b4 at *
  generalize decide (n = 0) = bn at *
  generalize decide (n = 1) = bn1 at *
  clear hb4
  by_cases k0 : k = 0
  · subst k0
    cases b4 <;> cases bn <;> cases be
    all_goals
      go_enter Tryz.func94, Tryz.ntmps94
      go_wp2_with (go_at_call 113; (with_reducible refine ((HV.out rfl)).mono ?_); rintro e w1 ⟨rfl, hb1⟩; have HB1 := Aside0.mk hb1; clear hb1)
      go_ret
      exact ⟨retB H0.out, HB.out⟩
  by_cases k1 : k = 1
  · subst k1
    cases b4 <;> cases bn <;> cases bn1 <;> cases be
    all_goals
      go_enter Tryz.func94, Tryz.ntmps94
      go_wp2_with (go_at_call 113; (with_reducible refine ((HV.out rfl)).mono ?_); rintro e w1 ⟨rfl, hb1⟩; have HB1 := Aside0.mk hb1; clear hb1)
      go_ret
      exact ⟨retB H1.out, HB.out⟩
  by_cases k2 : k = 2
  · subst k2
    cases b4 <;> cases bn <;> cases be
    all_goals
      go_enter Tryz.func94, Tryz.ntmps94
      go_wp2_with (go_at_call 113; (with_reducible refine ((HV.out rfl)).mono ?_); rintro e w1 ⟨rfl, hb1⟩; have HB1 := Aside0.mk hb1; clear hb1)
      go_ret
      exact ⟨retB H2.out, HB.out⟩
  by_cases k3 : k = 3
  · subst k3
    generalize Lib.validD s.data.toList = bv at *
    cases b4 <;> cases bn
    all_goals
      go_enter Tryz.func94, Tryz.ntmps94
      go_wp2_with (go_at_call 113; (with_reducible refine ((HV.out rfl)).mono ?_); rintro e w1 ⟨rfl, hb1⟩; have HB1 := Aside0.mk hb1; clear hb1)
      go_ret
      first | exact ⟨retB H3.out, HB.out⟩ | exact ⟨retB H3.out, bmore HB.out HB1.out⟩
  by_cases k4 : k = 4
  · subst k4
    cases b4 <;> cases bn
    all_goals
      go_enter Tryz.func94, Tryz.ntmps94
      go_wp2_with (go_at_call 113; (with_reducible refine ((HV.out rfl)).mono ?_); rintro e w1 ⟨rfl, hb1⟩; have HB1 := Aside0.mk hb1; clear hb1)
      go_ret
      exact ⟨retB H4.out, HB.out⟩
  have HX := Aside0.mk (HN.out ⟨k0, k1, k2, k3, k4⟩)
  have e0 : (k == 0) = false := beq_eq_false_iff_ne.2 k0
  have e1 : (k == 1) = false := beq_eq_false_iff_ne.2 k1
  have e2 : (k == 2) = false := beq_eq_false_iff_ne.2 k2
  have e3 : (k == 3) = false := beq_eq_false_iff_ne.2 k3
  have e4 : (k == 4) = false := beq_eq_false_iff_ne.2 k4
  cases b4 <;> cases bn
  all_goals
    go_enter Tryz.func94, Tryz.ntmps94
    go_wp2_with (go_at_call 113; (with_reducible refine ((HV.out rfl)).mono ?_); rintro e w1 ⟨rfl, hb1⟩; have HB1 := Aside0.mk hb1; clear hb1)
    go_ret
    exact ⟨retB HX.out, HB.out⟩
set_option maxRecDepth 100000 in
set_option maxHeartbeats 8000000 in
theorem valMay03_calls (k n : Int) (s : ByteArray) (hs : s.size ≤ 9223372036854775000) (w : World) :
    Calls Tryz.prog 90 #[.agg #[.int .i64 k, .int .i64 n, .string s]] w fun e w' => e = .returned (.bool (valB ⟨k, n, s⟩)) ∧ Below w.heap.size w w' := by
  have HB := Aside0.mk (show Below w.heap.size w (w.alloc (.cells #[.int .i64 k, .int .i64 n, .string s] 75)) from below_alloc (Below.refl _ _) _)
  have he := empty_iff s
  have hn := beq_dec n 0
  have hn1 := beq_dec n 1
  have h4 := le_dec s.size
  have HV := Aside0.mk (utf8_calls s hs (w.alloc (.cells #[.int .i64 k, .int .i64 n, .string s] 75)))
  have H0 := Aside0.mk (valB_0 n s)
  have H1 := Aside0.mk (valB_1 n s)
  have H2 := Aside0.mk (valB_2 n s)
  have H3 := Aside0.mk (valB_3 n s)
  have H4 := Aside0.mk (valB_4 n s)
  have HN := Aside0.mk (valB_no k n s)
  generalize decide (s.size = 0) = be at *
  generalize decide (s.size ≤ 4096) = b4 at *
  generalize decide (n = 0) = bn at *
  generalize decide (n = 1) = bn1 at *
  by_cases k0 : k = 0
  · subst k0
    cases bn <;> cases be
    all_goals
      go_enter Tryz.func90, Tryz.ntmps90
      go_wp2_with (go_at_call 89; (with_reducible refine (HV.out).mono ?_); rintro e w1 ⟨rfl, hw1⟩; have hw2 := hw1.symm; clear hw1; subst hw2)
      go_ret
      exact ⟨retB H0.out, HB.out⟩
  by_cases k1 : k = 1
  · subst k1
    cases bn <;> cases bn1 <;> cases be
    all_goals
      go_enter Tryz.func90, Tryz.ntmps90
      go_wp2_with (go_at_call 89; (with_reducible refine (HV.out).mono ?_); rintro e w1 ⟨rfl, hw1⟩; have hw2 := hw1.symm; clear hw1; subst hw2)
      go_ret
      exact ⟨retB H1.out, HB.out⟩
  by_cases k2 : k = 2
  · subst k2
    cases be
    all_goals
      go_enter Tryz.func90, Tryz.ntmps90
      go_wp2_with (go_at_call 89; (with_reducible refine (HV.out).mono ?_); rintro e w1 ⟨rfl, hw1⟩; have hw2 := hw1.symm; clear hw1; subst hw2)
      go_ret
      exact ⟨retB H2.out, HB.out⟩
  by_cases k3 : k = 3
  · subst k3
    generalize Lib.validD s.data.toList = bv at *
    cases bv <;> cases b4 <;> cases bn
    all_goals
      go_enter Tryz.func90, Tryz.ntmps90
      go_wp2_with (go_at_call 89; (with_reducible refine (HV.out).mono ?_); rintro e w1 ⟨rfl, hw1⟩; have hw2 := hw1.symm; clear hw1; subst hw2)
      go_ret
      exact ⟨retB H3.out, HB.out⟩
  by_cases k4 : k = 4
  · subst k4
    cases b4 <;> cases bn
    all_goals
      go_enter Tryz.func90, Tryz.ntmps90
      go_wp2_with (go_at_call 89; (with_reducible refine (HV.out).mono ?_); rintro e w1 ⟨rfl, hw1⟩; have hw2 := hw1.symm; clear hw1; subst hw2)
      go_ret
      exact ⟨retB H4.out, HB.out⟩
  have HX := Aside0.mk (HN.out ⟨k0, k1, k2, k3, k4⟩)
  have e0 : (k == 0) = false := beq_eq_false_iff_ne.2 k0
  have e1 : (k == 1) = false := beq_eq_false_iff_ne.2 k1
  have e2 : (k == 2) = false := beq_eq_false_iff_ne.2 k2
  have e3 : (k == 3) = false := beq_eq_false_iff_ne.2 k3
  have e4 : (k == 4) = false := beq_eq_false_iff_ne.2 k4
  go_enter Tryz.func90, Tryz.ntmps90
  go_wp2
  go_ret
  exact ⟨retB HX.out, HB.out⟩
end Go.Proofs.YtmdofdaiepilbaaGreatDoor
