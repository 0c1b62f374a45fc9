/- The law DiskArms comes to true for every number. Conditions: none. -/
import Derived.Test.YtbndgnbhmifefaaDkLives
namespace Go.Proofs.Ytbndgnbhmifefaa
open Go.RowKit Go.Proofs.YtbndgnbhmifefaaW.PrintWords Go.Proofs.YtbndgnbhmifefaaW.PrintMore
set_option linter.unusedVariables false
set_option linter.unusedSimpArgs false
theorem may_gone (t : Bool) (E : List DEnt) (names : List ByteArray) : mayR true t E names = 12 := rfl
section
variable {O : Nat → Prop} {w0 : World} {g M : Nat} {room armed : Int} {s : ByteArray} {bs : List Int} {kept : Nat}
theorem create_gone (hg : Good s) (w : World) (h : One O w0 w g M room armed true s bs kept) :
    Calls Try.prog 11 #[.pointer (some ⟨g, 0, none⟩), .string s] w fun x w' => x = .returned (.int .i64 12) ∧ One O w0 w' g M room armed true s bs kept := by
  obtain ⟨e, hn, hf, hr⟩ := h.rep
  refine (create_err O g M room armed true [e] s w hr hg.ok hg.size 12 (may_gone _ _ _) (by decide)).mono ?_
  rintro x w' ⟨rfl, hb⟩
  exact ⟨rfl, h.below hb⟩
theorem app_gone (hg : Good s) (B : Option Addr) (n cb : Nat) (w : World) (h : One O w0 w g M room armed true s bs kept) :
    Calls Try.prog 12 #[.pointer (some ⟨g, 0, none⟩), .string s, .slice B n cb] w fun x w' => x = .returned (.int .i64 12) ∧ One O w0 w' g M room armed true s bs kept := by
  obtain ⟨e, hn, hf, hr⟩ := h.rep
  refine (app_err O g M room armed true [e] s B n cb w hr hg.ok hg.size 12 (may_gone _ _ _) (by decide)).mono ?_
  rintro x w' ⟨rfl, hb⟩
  exact ⟨rfl, h.below hb⟩
theorem sync_gone (hg : Good s) (w : World) (h : One O w0 w g M room armed true s bs kept) :
    Calls Try.prog 16 #[.pointer (some ⟨g, 0, none⟩), .string s] w fun x w' => x = .returned (.int .i64 12) ∧ One O w0 w' g M room armed true s bs kept := by
  obtain ⟨e, hn, hf, hr⟩ := h.rep
  refine (sync_err O g M room armed true [e] s w hr hg.ok hg.size 12 (may_gone _ _ _) (by decide)).mono ?_
  rintro x w' ⟨rfl, hb⟩
  exact ⟨rfl, h.below hb⟩
end
theorem C_own1 (w : World) (a : Int) : Kd.C kByt (w.alloc (.cells #[.int .u8 a] 5)) (some ⟨w.heap.size, 0, none⟩) [a].length [a] :=
  C_row (l := [a]) (heap_alloc_new _ _) (by simp)
def ArmsAt (w wr : World) (N k : Nat) : Prop :=
  (k ≤ N ∧ ∃ bs : List Int, bs.length ≤ k ∧ One (fun k => w.heap.size ≤ k) w wr (w.heap.size + 1) w.heap.size 100 ((N : Int) - k) false ⟨#[97]⟩ bs 0) ∨
  (N < k ∧ ∃ bs : List Int, One (fun k => w.heap.size ≤ k) w wr (w.heap.size + 1) w.heap.size 100 (-1) true ⟨#[97]⟩ bs 0)
theorem ArmsAt.below {w wr : World} {N k : Nat} (h : ArmsAt w wr N k) : Below w.heap.size w wr := by
  rcases h with ⟨_, bs, _, h⟩ | ⟨_, bs, h⟩ <;> exact h.frame.below (fun _ h => h) (Nat.le_refl _)
theorem arms_num (a : Int) (h0 : -9223372036854775808 ≤ a) : ∃ N : Nat, N ≤ 20 ∧ ((a < 0 ∧ (-(a + 1)).tmod 21 = (N : Int)) ∨ (¬ a < 0 ∧ a.tmod 21 = (N : Int))) := by
  by_cases h : a < 0
  · refine ⟨((-(a + 1)) % 21).toNat, by omega, .inl ⟨h, ?_⟩⟩
    rw [Int.tmod_eq_emod_of_nonneg (by omega)]; omega
  · refine ⟨(a % 21).toNat, by omega, .inr ⟨h, ?_⟩⟩
    rw [Int.tmod_eq_emod_of_nonneg (by omega)]; omega
set_option maxRecDepth 100000 in
set_option maxHeartbeats 8000000 in
theorem arms_any (w : World) (a : Int) (h0 : -9223372036854775808 ≤ a) (h1 : a ≤ 9223372036854775807) :
    Calls Try.prog 5 #[.int .i64 a] w fun x w' => x = .returned (.bool true) ∧ Below w.heap.size w w' := by
  have hO : ∀ k, (fun k => w.heap.size ≤ k) k → w.heap.size ≤ k := fun _ h => h
  obtain ⟨N, hN, hs⟩ := arms_num a h0
  have hmx : max (N : Int) (-1) = (N : Int) := by omega
  rcases hs with ⟨hneg, htm⟩ | ⟨hneg, htm⟩
  all_goals
    go_enter Try.func5, Try.ntmps5
    go_upto_block 0 with (first
      | (go_at_call 9; (with_reducible refine (new_calls 100 w).mono ?_); rintro x w1 ⟨rfl, h1, hb1⟩; have H1 := Aside0.mk (show DRep (fun k => w.heap.size ≤ k) w1 (w.heap.size + 1) w.heap.size 100 (-1) false [] from h1); have HB1 := Aside0.mk hb1; clear h1 hb1)
      | (go_at_call 11; (with_reducible refine (create_first good_a w1 H1.out (fun k hk => Nat.le_trans HB1.out.size hk) (DFrame.of HB1.out) (by decide)).mono ?_); rintro x w2 ⟨rfl, h2⟩; have H2 := Aside0.mk h2; clear h2)
      | (go_at_call 17; (with_reducible refine (arm_one (N : Int) _ _ H2.out).mono ?_); rintro x w3 ⟨rfl, h3⟩; rw [hmx] at h3; have H3 := Aside0.mk h3; clear h3))
    go_wp2
    go_loopw [4] (fun i wr => ∃ k : Nat, k ≤ 25 ∧ i = .int .i64 k ∧ ArmsAt w wr N k) (fun i _ => 25 - (intOf i).toNat)
    case atStart => exact ⟨0, by omega, rfl, .inl ⟨by omega, [], by simp, by simpa using H3.out⟩⟩
    case round =>
      obtain ⟨k, hk, rfl, hat⟩ := hrel
      by_cases hgo : k < 25
      · have hgo' : (k : Int) < 25 := by omega
        rcases hat with ⟨hkN, bs, hbs, hone⟩ | ⟨hkN, bs, hone⟩
        · by_cases hlt : k < N
          · have e1 : (k : Int) ≤ N := by omega
            have e2 : (k : Int) < N := by omega
            have e3 : ¬ (N : Int) ≤ k := by omega
            have e4 : doN ((N : Int) - k) = 0 := by unfold doN; rw [if_neg (by omega)]
            have e5 : ((N : Int) - k == 0) = false := beq_eq_false_iff_ne.2 (by omega)
            have e6 : doA ((N : Int) - k) = (N : Int) - ((k + 1 : Nat) : Int) := by unfold doA; rw [if_pos (by omega)]; omega
            have HO := Aside0.mk hone
            clear hone
            go_wp2_with (first
              | (go_at_call 11; (with_reducible refine (create_again good_a _ HO.out).mono ?_); rintro x w4 ⟨rfl, h4⟩; have H4 := Aside0.mk h4; clear h4)
              | (go_at_call 12; (with_reducible refine (app_one good_a _ 1 1 [1] _ (H4.out.below (below_alloc (Below.refl _ _) _)) rfl (C_own1 w4 1) (Nat.le_refl _) (by simp; omega) (by decide) (by omega)).mono ?_); rintro x w5 ⟨rfl, h5⟩; rw [e4]; rw [e5, e6] at h5; have H5 := Aside0.mk (show One (fun k => w.heap.size ≤ k) w w5 (w.heap.size + 1) w.heap.size 100 ((N : Int) - ((k + 1 : Nat) : Int)) false ⟨#[97]⟩ (bs ++ [1]) 0 from h5); clear h5)
              | (go_at_call 18; (with_reducible refine (down_one _ _ H5.out).mono ?_); rintro x w6 ⟨rfl, rfl⟩))
            go_roundw
            case rel => exact ⟨k + 1, by omega, by go_num, .inl ⟨by omega, _, by simp; omega, H5.out⟩⟩
            case measure => simp [intOf]; omega
          · obtain rfl : k = N := by omega
            have e0 : (k : Int) - (k : Int) = 0 := by omega
            have e1 : (k : Int) ≤ k := by omega
            have e2 : ¬ (k : Int) < k := by omega
            have e4 : doN 0 = 12 := rfl
            rw [e0] at hone
            have HO := Aside0.mk hone
            clear hone
            go_wp2_with (first
              | (go_at_call 11; (with_reducible refine (create_again good_a _ HO.out).mono ?_); rintro x w4 ⟨rfl, h4⟩; have H4 := Aside0.mk h4; clear h4)
              | (go_at_call 12; (with_reducible refine (app_one good_a _ 1 1 [1] _ (H4.out.below (below_alloc (Below.refl _ _) _)) rfl (C_own1 w4 1) (Nat.le_refl _) (by simp; omega) (by decide) (by omega)).mono ?_); rintro x w5 ⟨rfl, h5⟩; rw [e4]; have H5 := Aside0.mk (show One (fun k => w.heap.size ≤ k) w w5 (w.heap.size + 1) w.heap.size 100 (-1) true ⟨#[97]⟩ (bs ++ [1]) 0 from h5); clear h5)
              | (go_at_call 18; (with_reducible refine (down_one _ _ H5.out).mono ?_); rintro x w6 ⟨rfl, rfl⟩))
            go_roundw
            case rel => exact ⟨k + 1, by omega, by go_num, .inr ⟨by omega, _, H5.out⟩⟩
            case measure => simp [intOf]; omega
        · have e1 : ¬ (k : Int) ≤ N := by omega
          have e2 : ¬ (k : Int) < N := by omega
          have e3 : (N : Int) ≤ k := by omega
          have HO := Aside0.mk hone
          clear hone
          go_wp2_with (first
            | (go_at_call 11; (with_reducible refine (create_gone good_a _ HO.out).mono ?_); rintro x w4 ⟨rfl, h4⟩; have H4 := Aside0.mk h4; clear h4)
            | (go_at_call 12; (with_reducible refine (app_gone good_a _ 1 1 _ (H4.out.below (below_alloc (Below.refl _ _) _))).mono ?_); rintro x w5 ⟨rfl, h5⟩; have H5 := Aside0.mk h5; clear h5)
            | (go_at_call 18; (with_reducible refine (down_one _ _ H5.out).mono ?_); rintro x w6 ⟨rfl, rfl⟩))
          go_roundw
          case rel => exact ⟨k + 1, by omega, by go_num, .inr ⟨by omega, _, H5.out⟩⟩
          case measure => simp [intOf]; omega
      · obtain rfl : k = 25 := by omega
        have hb := hat.below
        go_wp2_with (go_at_call 15; (with_reducible refine (lives_calls _).mono ?_); rintro x w9 ⟨rfl, hb9⟩)
        go_ret
        exact ⟨rfl, below_more hb hb9⟩
end Go.Proofs.Ytbndgnbhmifefaa
