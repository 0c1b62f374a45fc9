/- The law DiskKeeps comes to true for every input. Conditions: the texts read so. -/
import Derived.Test.YtbndgnbhmifefaaDkHas
import Derived.Test.YtbndgnbhmifefaaReads
import Derived.Deep.DeepCutAuto
import Derived.Deep.CutBlock
namespace Go.Proofs.Ytbndgnbhmifefaa
open Go.RowKit Go.Proofs.YtbndgnbhmifefaaW.PrintWords Go.Proofs.YtbndgnbhmifefaaW.PrintMore
set_option linter.unusedVariables false
set_option linter.unusedSimpArgs false
theorem rd_u8 : Reads Try.prog 5 (Kd.int .u8) (fun n => (Lit.int .u8 n).wf = true) := Reads.int Try.underlying5 (by kernel_rfl)
def bytesOk (l : List Int) : Prop := (∀ a ∈ l, (Lit.int .u8 a).wf = true) ∧ l.length * 1 ≤ reachBytes
theorem rd_bytes : Reads Try.prog 22 (Kd.slice 5 kByt) bytesOk := Reads.slice Try.underlying22 (by kernel_rfl) (by kernel_rfl) rd_u8
def rowsOk (l : List (List Int)) : Prop := (∀ a ∈ l, bytesOk a) ∧ l.length * 24 ≤ reachBytes
theorem rd_rows : Reads Try.prog 34 (Kd.slice 22 (Kd.slice 5 kByt)) rowsOk := Reads.slice Try.underlying34 (by kernel_rfl) (by kernel_rfl) rd_bytes
theorem str_app (a b : List Int) : strOfNums a ++ strOfNums b = strOfNums (a ++ b) := by
  apply ByteArray.ext
  simp [strOfNums]
theorem str_cut (a : List Int) (n : Nat) : (strOfNums a).extract 0 n = strOfNums (a.take n) := by
  apply ByteArray.ext
  simp [strOfNums, List.map_take]
def nA : ByteArray := ⟨#[97]⟩
/-- the disk of the law, with one file -/
def KAt (w wr : World) (armed : Int) (down : Bool) (bs : List Int) (kept : Nat) : Prop := One (fun k => w.heap.size ≤ k) w wr (w.heap.size + 1) w.heap.size 1000 armed down ⟨#[97]⟩ bs kept
theorem KAt.one {w wr : World} {armed : Int} {down : Bool} {bs : List Int} {kept : Nat} (h : KAt w wr armed down bs kept) : One (fun k => w.heap.size ≤ k) w wr (w.heap.size + 1) w.heap.size 1000 armed down ⟨#[97]⟩ bs kept := h
theorem KAt.bel {w wr : World} {armed : Int} {down : Bool} {bs : List Int} {kept : Nat} (h : KAt w wr armed down bs kept) : Below w.heap.size w wr := h.frame.below (fun _ h => h) (Nat.le_refl _)
/-- behind some rounds of the first loop -/
def K1 (w wr : World) (j : Nat) (v : Value) : Prop := ∃ K : List Int, K.length ≤ 30 * j ∧ v = .string (strOfNums K) ∧ KAt w wr (-1) false K 0
/-- behind some rounds of the second -/
def K2 (w wr : World) (K : List Int) (j : Nat) (dn : Bool) (v : Value) : Prop := ∃ (X : List Int) (a : Int), X.length ≤ 30 * j ∧ a ≤ 9223372036854775807 ∧ -1 ≤ a ∧ v = .string (strOfNums (K ++ X)) ∧ KAt w wr a dn (K ++ X) K.length
theorem K1.next {w wr : World} {j : Nat} {K p : List Int} (hK : K.length ≤ 30 * j) (hp : p.length ≤ 30) (h : KAt w wr (-1) false (K ++ p) 0) : K1 w wr (j + 1) (.string (strOfNums (K ++ p))) := ⟨K ++ p, by rw [List.length_append]; omega, rfl, h⟩
theorem K2.next {w wr : World} {j : Nat} {K X p : List Int} {dn : Bool} {a : Int} (hK : X.length ≤ 30 * j) (hp : p.length ≤ 30) (ha : a ≤ 9223372036854775807) (ha' : -1 ≤ a) (h : KAt w wr a dn (K ++ X ++ p) K.length) : K2 w wr K (j + 1) dn (.string (strOfNums (K ++ (X ++ p)))) := ⟨X ++ p, a, by rw [List.length_append]; omega, ha, ha', rfl, by rw [← List.append_assoc]; exact h⟩
set_option maxRecDepth 100000 in
set_option maxHeartbeats 8000000 in
theorem keeps_any (w : World) (A : Option Addr) (c : Nat) (S : List (List Int)) (hC : Kd.C (Kd.slice 5 kByt) w A S.length S) (hc : S.length ≤ c) (A2 : Option Addr) (c2 : Nat) (T : List (List Int)) (hC2 : Kd.C (Kd.slice 5 kByt) w A2 T.length T) (hc2 : T.length ≤ c2)
    (n : Int) (hn0 : -9223372036854775808 ≤ n) (hn1 : n ≤ 9223372036854775807) (keep : Int) (hk0 : -9223372036854775808 ≤ keep) (hk1 : keep ≤ 9223372036854775807) :
    Calls Try.prog 4 #[.slice A S.length c, .slice A2 T.length c2, .int .i64 n, .int .i64 keep] w fun x w' => x = .returned (.bool true) ∧ Below w.heap.size w w' := by
  have hS : S.length ≤ 9223372036854775807 := hC.2.1
  have hT : T.length ≤ 9223372036854775807 := hC2.2.1
  have HC1 := Aside0.mk hC
  have HC2 := Aside0.mk hC2
  clear hC hC2
  go_enter Try.func4, Try.ntmps4
  go_upto_block 0 with (first
    | (go_at_call 9; (with_reducible refine (new_calls 1000 w).mono ?_); rintro x w1 ⟨rfl, h1, hb1⟩; have H1 := Aside0.mk (show DRep (fun k => w.heap.size ≤ k) w1 (w.heap.size + 1) w.heap.size 1000 (-1) false [] from h1); have HB1 := Aside0.mk hb1; clear h1 hb1)
    | (go_at_call 11; (with_reducible refine (create_first good_a w1 H1.out (fun k hk => Nat.le_trans HB1.out.size hk) (DFrame.of HB1.out) (by decide)).mono ?_); rintro x w2 ⟨rfl, h2⟩; have H2 := Aside0.mk (show KAt w w2 (-1) false [] 0 from h2); clear h2))
  go_cut [10] (fun k w' => K1 w w' 6 k)
  case first =>
    go_wp2
    go_loopw [10, 11] (fun k i wr => ∃ j : Nat, j ≤ 6 ∧ i = .int .i64 j ∧ K1 w wr j k) (fun _ i _ => 6 - (intOf i).toNat)
    case atStart => exact ⟨0, by omega, rfl, [], by simp, rfl, H2.out⟩
    case round =>
      obtain ⟨j, hj, rfl, K, hK, rfl, hone⟩ := hrel
      have HO := Aside0.mk hone
      have hbel := hone.bel
      clear hone
      by_cases hlt : j < S.length
      · by_cases hl6 : j < 6
        · have hl6' : (j : Int) < 6 := by omega
          obtain ⟨ad, A0, c0, eA, hcell0, hl0, hC0⟩ := at_slice HC1.out j hlt
          cases eA
          have HCell := Aside0.mk hcell0
          have hcell := pw_cell_below hbel hcell0
          have HF := Aside0.mk (fun W => few_calls A0 c0 (rdL S j) W hl0)
          have HCp := Aside0.mk (C_few hC0)
          have hp : ((rdL S j).take 30).length ≤ 30 := by rw [List.length_take]; omega
          have hpc : ((rdL S j).take 30).length ≤ c0 := by rw [List.length_take]; omega
          clear hcell0 hC0 hl0
          generalize (rdL S j).take 30 = p at *
          generalize rdL S j = q at *
          have HAdd := Aside0.mk (fun W => run_string_add_sum (P := Try.prog) W (strOfNums K) (strOfNums p) (by rw [str_size, str_size]; omega))
          rw [str_app] at HAdd
          have hadd := HAdd.out
          have HBel := Aside0.mk hbel
          clear hbel
          go_wp2_with (first
            | (go_at_call 10; (with_reducible refine (HF.out _).mono ?_); rintro x w' ⟨rfl, hw'⟩; have hw2 := hw'.symm; clear hw'; subst hw2)
            | (go_at_call 12; (with_reducible refine (app_one good_a A0 p.length c0 p _ HO.out.one rfl (Kd.C_below HCp.out HBel.out) hpc (by omega) (by decide) (by decide)).mono ?_); rintro x w4 ⟨rfl, h4⟩; have H4 := Aside0.mk (show KAt w w4 (-1) false (K ++ p) 0 from h4); have hcell4 := pw_cell_below H4.out.bel HCell.out; have hst4 := str_run w4 A0 p.length c0 p rfl (Kd.C_below HCp.out H4.out.bel); clear h4))
          go_roundw
          case rel => exact ⟨j + 1, by omega, by go_num, K1.next hK hp H4.out⟩
          case measure => simp [intOf]; omega
        · have hl6' : ¬ (j : Int) < 6 := by omega
          obtain rfl : j = 6 := by omega
          go_wp2
          go_meet
          exact ⟨K, hK, rfl, HO.out⟩
      · go_wp2
        go_meet
        exact ⟨K, by omega, rfl, HO.out⟩
  case rest =>
    obtain ⟨K, hK, rfl, hone⟩ := hcut
    have HO := Aside0.mk hone
    clear hone H1 HB1
    have hmx : max n (-1) ≤ 9223372036854775807 := by omega
    have hmx2 : -1 ≤ max n (-1) := by omega
    go_upto_block 2 with (first
      | (go_at_call 16; (with_reducible refine (sync_one good_a _ HO.out.one (by decide)).mono ?_); rintro x w3 ⟨rfl, h3⟩; have H3 := Aside0.mk (show KAt w w3 (-1) false K K.length from h3); clear h3)
      | (go_at_call 17; (with_reducible refine (arm_one n _ _ H3.out.one).mono ?_); rintro x w4 ⟨rfl, h4⟩; have H4 := Aside0.mk (show KAt w w4 (max n (-1)) false K K.length from h4); clear h4))
    go_cut [12] (fun v w' => ∃ dn, K2 w w' K 6 dn v)
    case first =>
      go_wp2
      go_loopw [12, 13] (fun v i wr => ∃ j : Nat, j ≤ 6 ∧ i = .int .i64 j ∧ K2 w wr K j false v) (fun _ i _ => 6 - (intOf i).toNat)
      case atStart => exact ⟨0, by omega, rfl, [], _, by simp, hmx, hmx2, by simp, by simpa using H4.out⟩
      case round =>
        obtain ⟨j, hj, rfl, X, a, hX, ha, ha', rfl, hone⟩ := hrel
        have HO2 := Aside0.mk hone
        have hbel := hone.bel
        clear hone
        by_cases hlt : j < T.length
        · by_cases hl6 : j < 6
          · have hl6' : (j : Int) < 6 := by omega
            obtain ⟨ad, A0, c0, eA, hcell0, hl0, hC0⟩ := at_slice HC2.out j hlt
            cases eA
            have HCell := Aside0.mk hcell0
            have hcell := pw_cell_below hbel hcell0
            have HF := Aside0.mk (fun W => few_calls A0 c0 (rdL T j) W hl0)
            have HCp := Aside0.mk (C_few hC0)
            have hp : ((rdL T j).take 30).length ≤ 30 := by rw [List.length_take]; omega
            have hpc : ((rdL T j).take 30).length ≤ c0 := by rw [List.length_take]; omega
            clear hcell0 hC0 hl0
            generalize (rdL T j).take 30 = p at *
            generalize rdL T j = q at *
            have HAdd := Aside0.mk (fun W => run_string_add_sum (P := Try.prog) W (strOfNums (K ++ X)) (strOfNums p) (by rw [str_size, str_size, List.length_append]; omega))
            rw [str_app] at HAdd
            have hadd := HAdd.out
            have HBel := Aside0.mk hbel
            have hlen : (K ++ X).length + p.length ≤ 1000 := by rw [List.length_append]; omega
            clear hbel
            by_cases h0 : a = 0
            · subst h0
              have hd0 : doN 0 = 12 := rfl
              go_wp2_with (first
                | (go_at_call 10; (with_reducible refine (HF.out _).mono ?_); rintro x w' ⟨rfl, hw'⟩; have hw2 := hw'.symm; clear hw'; subst hw2)
                | (go_at_call 12; (with_reducible refine (app_one good_a A0 p.length c0 p _ HO2.out.one rfl (Kd.C_below HCp.out HBel.out) hpc (by omega) (by decide) (by decide)).mono ?_); rintro x w4 ⟨rfl, h4⟩; have H4 := Aside0.mk (show KAt w w4 (-1) true (K ++ X ++ p) K.length from h4); have hcell4 := pw_cell_below H4.out.bel HCell.out; have hst4 := str_run w4 A0 p.length c0 p rfl (Kd.C_below HCp.out H4.out.bel); clear h4))
              go_meet
              exact ⟨true, by
                obtain ⟨Y, b, h1, h2⟩ := K2.next hX hp (by decide) (by decide) H4.out
                exact ⟨Y, b, by omega, h2⟩⟩
            · have hd0 : doN a = 0 := by unfold doN; rw [if_neg h0]
              have hd1 : (a == 0) = false := beq_eq_false_iff_ne.2 h0
              have hd2 : doA a ≤ 9223372036854775807 := by unfold doA; split <;> omega
              have hd3 : -1 ≤ doA a := by unfold doA; split <;> omega
              have HD1 := Aside0.mk hd1
              clear hd1
              go_wp2_with (first
                | (go_at_call 10; (with_reducible refine (HF.out _).mono ?_); rintro x w' ⟨rfl, hw'⟩; have hw2 := hw'.symm; clear hw'; subst hw2)
                | (go_at_call 12; (with_reducible refine (app_one good_a A0 p.length c0 p _ HO2.out.one rfl (Kd.C_below HCp.out HBel.out) hpc (by omega) (by decide) ha).mono ?_); rintro x w4 ⟨rfl, h4⟩; rw [HD1.out] at h4; have H4 := Aside0.mk (show KAt w w4 (doA a) false (K ++ X ++ p) K.length from h4); have hcell4 := pw_cell_below H4.out.bel HCell.out; have hst4 := str_run w4 A0 p.length c0 p rfl (Kd.C_below HCp.out H4.out.bel); clear h4))
              go_roundw
              case rel => exact ⟨j + 1, by omega, by go_num, K2.next hX hp hd2 hd3 H4.out⟩
              case measure => simp [intOf]; omega
          · have hl6' : ¬ (j : Int) < 6 := by omega
            obtain rfl : j = 6 := by omega
            go_wp2
            go_meet
            exact ⟨false, X, a, hX, ha, ha', rfl, HO2.out⟩
        · go_wp2
          go_meet
          exact ⟨false, X, a, by omega, ha, ha', rfl, HO2.out⟩
    case rest =>
      obtain ⟨dn, X, a, hX, ha, ha', rfl, hone⟩ := hcut
      have HO2 := Aside0.mk hone
      clear hone HO H3 H4
      have hB : (K ++ X).length ≤ 1000 := by rw [List.length_append]; omega
      have hKB : K.length ≤ (K ++ X).length := by rw [List.length_append]; omega
      have hz1 : (strOfNums K).size = K.length := str_size K
      have hz2 : (strOfNums (K ++ X)).size = (K ++ X).length := str_size _
      obtain ⟨hu1, hu2⟩ := upN_le (n := keep) hk0 hKB
      generalize hN : upN keep K.length (K ++ X).length = N at *
      have hz3 : (strOfNums ((K ++ X).take N)).size = N := by rw [str_size, List.length_take]; omega
      have hlt3 : ((K ++ X).take N).length = N := by rw [List.length_take]; omega
      have hcut3 : (strOfNums (K ++ X)).extract 0 N = strOfNums ((K ++ X).take N) := str_cut _ _
      generalize K ++ X = B at *
      generalize hq : B.take N = Bq at *
      have HN := Aside0.mk hN
      have HQ := Aside0.mk hq
      clear hN hq
      have ha0 : max (0 : Int) (-1) = 0 := by omega
      cases dn
      all_goals
        go_wp2_with (first
          | (go_at_call 17; (with_reducible refine (arm_one 0 _ _ HO2.out.one).mono ?_); rintro x w5 ⟨rfl, h5⟩; rw [ha0] at h5; have H5 := Aside0.mk h5; clear h5)
          | (go_at_call 16; (with_reducible refine (sync_one good_a _ H5.out (by decide)).mono ?_); rintro x w6 ⟨rfl, h6⟩; have H6 := Aside0.mk (show KAt w w6 (-1) true B K.length from h6); clear h6)
          | (go_at_call 16; (with_reducible refine (sync_gone good_a _ H5.out).mono ?_); rintro x w6 ⟨rfl, h6⟩; have H6 := Aside0.mk (show KAt w w6 0 true B K.length from h6); clear h6)
          | (go_at_call 18; (with_reducible refine (down_one _ _ H6.out.one).mono ?_); rintro x w7 ⟨rfl, hw7⟩; have hw8 := hw7.symm; clear hw7; subst hw8)
          | (go_at_call 19; (with_reducible refine (up_here keep _ H6.out.one hk0 hk1 (by decide) hKB (by omega)).mono ?_); rintro x w8 ⟨rfl, h8⟩; rw [HN.out, HQ.out] at h8; have H8 := Aside0.mk (show KAt w w8 (-1) false Bq N from h8); clear h8)
          | (go_at_call 13; (with_reducible refine (read_one good_a _ H8.out.one (by omega)).mono ?_); rintro x w9 ⟨h9, v9, b9, hb9, rfl, hR9, hbl9⟩; obtain ⟨A9, c9, rfl⟩ := Kd.R_slice hR9; have hs9 := str_run w9 A9 N c9 Bq hlt3.symm (Kd.F_now (Kd.R_F hR9)); have H9 := Aside0.mk (show KAt w w9 (-1) false Bq N from h9); clear h9 hR9 hbl9)
          | (go_at_call 15; (with_reducible refine (lives_calls _).mono ?_); rintro x w10 ⟨rfl, hb10⟩))
        go_ret
        exact ⟨rfl, below_more H9.out.bel hb10⟩
theorem keeps_row (w : World) (A : Option Addr) (c : Nat) (S : List (List Int)) (hC : Kd.C (Kd.slice 5 kByt) w A S.length S) (hc : S.length ≤ c) (ho : rowsOk S) (A2 : Option Addr) (c2 : Nat) (T : List (List Int)) (hC2 : Kd.C (Kd.slice 5 kByt) w A2 T.length T) (hc2 : T.length ≤ c2) (ho2 : rowsOk T)
    (n : Int) (hn0 : -9223372036854775808 ≤ n) (hn1 : n ≤ 9223372036854775807) (keep : Int) (hk0 : -9223372036854775808 ≤ keep) (hk1 : keep ≤ 9223372036854775807) :
    Calls Try.prog 4 #[.slice A S.length c, .slice A2 T.length c2, .int .i64 n, .int .i64 keep] w fun x w' => x = .returned (.bool true) ∧ Below w.heap.size w w' := keeps_any w A c S hC hc A2 c2 T hC2 hc2 n hn0 hn1 keep hk0 hk1
end Go.Proofs.Ytbndgnbhmifefaa
