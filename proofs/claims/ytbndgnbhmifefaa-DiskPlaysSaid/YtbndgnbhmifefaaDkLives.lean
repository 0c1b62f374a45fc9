/- The document's example: true. -/
import Derived.Test.YtbndgnbhmifefaaDkOne
namespace Go.Proofs.Ytbndgnbhmifefaa
open Go.RowKit Go.Proofs.YtbndgnbhmifefaaW.PrintWords Go.Proofs.YtbndgnbhmifefaaW.PrintMore
set_option linter.unusedVariables false
set_option linter.unusedSimpArgs false
set_option maxRecDepth 100000 in
set_option maxHeartbeats 8000000 in
theorem lives_calls (w : World) : Calls Try.prog 15 #[] w fun x w' => x = .returned (.bool true) ∧ Below w.heap.size w w' := by
  have hO : ∀ k, (fun k => w.heap.size ≤ k) k → w.heap.size ≤ k := fun _ h => h
  have hcv := conv_const
  have hd0 : doN 0 = 12 := rfl
  have hx : strOfNums [120, 121, 122] = ⟨#[120, 121, 122]⟩ := by rfl
  go_enter Try.func15, Try.ntmps15
  go_wp2_with (first
    | (go_at_call 9; (with_reducible refine (new_calls 100 w).mono ?_); rintro x w1 ⟨rfl, h1, hb1⟩; have H1 := Aside0.mk (show DRep (fun k => w.heap.size ≤ k) w1 (w.heap.size + 1) w.heap.size 100 (-1) false [] from h1); have HB1 := Aside0.mk hb1; clear h1 hb1)
    | (go_at_call 11; (with_reducible refine (create_first good_a w1 H1.out (fun k hk => Nat.le_trans HB1.out.size hk) (DFrame.of HB1.out) (by decide)).mono ?_); rintro x w2 ⟨rfl, h2⟩; have H2 := Aside0.mk h2; clear h2)
    | (go_at_call 12; (with_reducible refine (app_one good_a _ 1 1 [120] _ (H2.out.below (below_alloc (Below.refl _ _) _)) rfl (C_lit1 w2 120) (by decide) (by decide) (by decide) (by decide)).mono ?_); rintro x w3 ⟨rfl, h3⟩; have H3 := Aside0.mk (show One (fun k => w.heap.size ≤ k) w w3 (w.heap.size + 1) w.heap.size 100 (-1) false ⟨#[97]⟩ [120] 0 from h3); clear h3)
    | (go_at_call 16; (with_reducible refine (sync_one good_a _ H3.out (by decide)).mono ?_); rintro x w4 ⟨rfl, h4⟩; have H4 := Aside0.mk (show One (fun k => w.heap.size ≤ k) w w4 (w.heap.size + 1) w.heap.size 100 (-1) false ⟨#[97]⟩ [120] 1 from h4); clear h4)
    | (go_at_call 12; (with_reducible refine (app_one good_a _ 2 2 [121, 122] _ (H4.out.below (below_alloc (Below.refl _ _) _)) rfl (C_lit2 w4 121 122) (by decide) (by decide) (by decide) (by decide)).mono ?_); rintro x w5 ⟨rfl, h5⟩; have H5 := Aside0.mk (show One (fun k => w.heap.size ≤ k) w w5 (w.heap.size + 1) w.heap.size 100 (-1) false ⟨#[97]⟩ [120, 121, 122] 1 from h5); clear h5)
    | (go_at_call 17; (with_reducible refine (arm_one 0 _ _ H5.out).mono ?_); rintro x w6 ⟨rfl, h6⟩; have H6 := Aside0.mk (show One (fun k => w.heap.size ≤ k) w w6 (w.heap.size + 1) w.heap.size 100 0 false ⟨#[97]⟩ [120, 121, 122] 1 from h6); clear h6)
    | (go_at_call 12; (with_reducible refine (app_one good_a _ 1 1 [119] _ (H6.out.below (below_alloc (Below.refl _ _) _)) rfl (C_lit1 w6 119) (by decide) (by decide) (by decide) (by decide)).mono ?_); rintro x w7 ⟨rfl, h7⟩; have H7 := Aside0.mk (show One (fun k => w.heap.size ≤ k) w w7 (w.heap.size + 1) w.heap.size 100 (-1) true ⟨#[97]⟩ [120, 121, 122, 119] 1 from h7); clear h7)
    | (go_at_call 19; (with_reducible refine (up_here 2 _ H7.out (by decide) (by decide) (by decide) (by decide) (by decide)).mono ?_); rintro x w8 ⟨rfl, h8⟩; have H8 := Aside0.mk (show One (fun k => w.heap.size ≤ k) w w8 (w.heap.size + 1) w.heap.size 100 (-1) false ⟨#[97]⟩ [120, 121, 122] 3 from h8); clear h8)
    | (go_at_call 13; (with_reducible refine (read_one good_a _ H8.out (by decide)).mono ?_); rintro x w9 ⟨h9, v, base, hbase, rfl, hR, hb9⟩; obtain ⟨A, c, rfl⟩ := Kd.R_slice hR; have H9 := Aside0.mk h9; have hstr := str_run w9 A 3 c [120, 121, 122] rfl (Kd.F_now (Kd.R_F hR)); rw [hx] at hstr; clear h9 hR))
  go_ret
  exact ⟨by rfl, H9.out.frame.below hO (Nat.le_refl _)⟩
end Go.Proofs.Ytbndgnbhmifefaa
