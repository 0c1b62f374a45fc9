/- The document's example of layer 14: true. -/
import Derived.Test.YtapcoekakbbmcaaGreatDoorWalNil
import Derived.Deep.RegionHeld3
namespace Go.Proofs.YtapcoekakbbmcaaGreatDoor
open Go.RowKit Go.Proofs.YtapcoekakbbmcaaGreatDoorW.PrintWords
set_option linter.unusedVariables false
set_option linter.unusedSimpArgs false
theorem below_two {w W1 W2 : World} (h : Below w.heap.size w W1) (h2 : Below W1.heap.size W1 W2) : Below w.heap.size w W2 := h.trans (h2.mono h.size)
theorem str_run (w : World) (A : Option Addr) (n c : Nat) (l : List Int) (hn : n = l.length) (h : kByt.C w A l.length l) :
    (convert 43 9 (.slice A n c)).run Tryz.prog w = .ok (.string (strOfNums l)) w := by
  subst hn
  rw [run_convert_bytes_string w _ _ 5 _ _ _ Tryz.underlying43 Tryz.underlying5 Tryz.underlying9]
  obtain ⟨_, _, h3⟩ := C_cells h
  cases A with
  | none =>
    cases l with
    | nil => rfl
    | cons a l => obtain ⟨ad, h4, _⟩ := h3 (by simp); cases h4
  | some ad =>
    have hl : (loadCells ad l.length).run Tryz.prog w = .ok (l.map (Value.int .u8)).toArray w := by
      have := run_loadCells_list (P := Tryz.prog) w ad (l.map (Value.int .u8)) (fun j v hj => by
        have hjl : j < l.length := by simpa using (List.getElem?_eq_some_iff.1 hj).1
        obtain ⟨ad', h4, h5⟩ := h3 (by omega)
        cases h4
        rw [h5 j hjl]
        simp [List.getElem?_eq_getElem hjl] at hj
        subst hj
        simp [List.getD, List.getElem?_eq_getElem hjl])
      simpa using this
    rw [run_bytesToString w _ _ _ l hl, foldl_push_bytes]
    simp [strOfNums, ByteArray.empty, ByteArray.emptyWithCapacity]
    rfl
theorem works_nil (w : World) : Calls Tryz.prog 48 #[.slice none 0 0, .slice none 0 0] w fun e w' => e = .returned (.bool true) ∧ w = w' := by
  go_enter Tryz.func48, Tryz.ntmps48
  go_wp2
  refine wp_loop_rounds 1 ?_
  rw [rounds_succ]
  go_wp2
  go_ret
  exact ⟨rfl, rfl⟩
set_option maxRecDepth 100000 in
theorem samept_nil (w : World) : Calls Tryz.prog 18 #[.agg #[.int .i64 0, .int .i64 0, .int .i64 0, .slice none 0 0], .agg #[.int .i64 0, .int .i64 0, .int .i64 0, .slice none 0 0]] w fun e w' => e = .returned (.bool true) ∧ Below w.heap.size w w' := by
  go_enter Tryz.func18, Tryz.ntmps18
  go_wp2_with (go_at_call 48; (with_reducible refine (works_nil _).mono ?_); rintro e w1 ⟨rfl, rfl⟩)
  go_ret
  exact ⟨rfl, ((Below.refl _ _).alloc (Nat.le_refl _) _).alloc (by simp) _⟩
set_option maxRecDepth 100000 in
set_option maxHeartbeats 2000000 in
theorem lives_calls (w : World) : Calls Tryz.prog 14 #[] w fun x w' => x = .returned (.bool true) ∧ Below w.heap.size w w' := by
  have hst : strOfNums (zeros 5) = ⟨#[0, 0, 0, 0, 0]⟩ := by rfl
  have HST := Aside0.mk hst
  clear hst
  go_enter Tryz.func14, Tryz.ntmps14
  go_wp2_with fail
  refine (wwrite_nil _).mono ?_
  rintro e w2 ⟨v2, rfl, hR2, hb2⟩
  obtain ⟨A2, c2, rfl⟩ := Kd.R_slice hR2
  rw [show (zeros 5).length = 5 from rfl] at hR2 ⊢
  obtain ⟨h5, hc2, hC2⟩ := Kd.R_reads' hR2
  have HC2 := Aside0.mk hC2
  have HB2 := Aside0.mk hb2
  have HL2 := Aside0.mk hc2
  clear hR2 hC2 hb2 hc2 h5
  go_wp2_with fail
  refine (wread_nil _ HC2.out HL2.out).mono ?_
  rintro e w3 ⟨rfl, hb3⟩
  have hs3 := str_run (w3.alloc (.cells #[.int .i64 0, .int .i64 0, .int .i64 0, .slice none 0 0] 47)) A2 5 c2 (zeros 5) rfl (Kd.C_below HC2.out (hb3.trans ((Below.refl _ _).alloc hb3.size _)))
  rw [HST.out] at hs3
  have HB3 := Aside0.mk (below_two HB2.out hb3)
  clear hb3
  go_wp2_with fail
  refine (samept_nil _).mono ?_
  rintro e w4 ⟨rfl, hb4⟩
  go_wp2
  go_ret
  exact ⟨rfl, below_two (HB3.out.alloc HB3.out.size _) hb4⟩
end Go.Proofs.YtapcoekakbbmcaaGreatDoor
