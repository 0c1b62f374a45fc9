/- The law CoverRows: whatever is covered, program and document tell the same. Conditions: the arguments read so. -/
import Derived.Test.YtmdofdaiepilbaaGreatDoorGRead
import Derived.Test.YtmdofdaiepilbaaGreatDoorGCov
import Derived.Test.YtmdofdaiepilbaaGreatDoorGCov
import Derived.Test.YtmdofdaiepilbaaGreatDoorGRow
import Derived.Test.YtmdofdaiepilbaaGreatDoorGSame
import Derived.Test.YtmdofdaiepilbaaGreatDoorGood06
import Derived.Test.YtmdofdaiepilbaaGreatDoorGoodW
import Derived.Test.YtmdofdaiepilbaaGreatDoorGRow
namespace Go.Proofs.YtmdofdaiepilbaaGreatDoor
open Go.RowKit Go.Proofs.YtmdofdaiepilbaaGreatDoorW.PrintWords
set_option linter.unusedVariables false
set_option linter.unusedSimpArgs false
theorem mayB_bounds {l : List Col} {ks : Int} (h : mayB l ks = true) : 1 ≤ ks ∧ ks ≤ 4 ∧ ks ≤ (l.length : Int) ∧ l.length ≤ 16 ∧ kindsOk l := by
  unfold mayB headB at h
  simp only [Bool.and_eq_true, decide_eq_true_eq, List.all_eq_true, List.mem_range] at h
  obtain ⟨⟨⟨⟨h1, h2⟩, h3⟩, h4⟩, h5⟩ := h
  refine ⟨h2, h3, h4, h1, fun c hc => ?_⟩
  obtain ⟨i, hi, rfl⟩ := List.mem_iff_getElem.1 hc
  have := h5 i hi
  unfold colB kindB at this
  simp only [Bool.and_eq_true, decide_eq_true_eq] at this
  rw [← rdCol_get hi]
  exact this.1.1.2
theorem okTabs.key {l : List Tab} (h : okTabs l) (hl : l.length ≤ 3) : keyT l := ⟨h.1, by omega, fun t ht => by
  obtain ⟨h1, h2, h3, h4, _⟩ := mayB_bounds (h.2 t ht).2.1
  exact ⟨by omega, h3, by omega⟩⟩
theorem hasT_at {l : List Tab} (hs : sortT l) {k : Nat} (hk : k < l.length) : hasT l (rdTab l k).name = true := (atT_some hs hk rfl).2
theorem covRows_has {l : List Tab} {s : ByteArray} (h : hasT l s = true) (p : List Val → Bool) (rows : List (List Val)) : covRows (fun r => hasT l s && p r) rows = covRows p rows := by
  rw [h]; rfl
theorem und_Wri : Tryz.prog.underlying 33 = some (.slice (Tryz.prog.elem 33)) := by
  have h : Tryz.prog.elem 33 = 60 := by kernel_rfl
  rw [h]; exact Tryz.underlying33
theorem elem_Wri : Tryz.prog.elem 33 = 60 := by kernel_rfl
theorem size_Wri (W : World) : (sizeOf 60).run Tryz.prog W = .ok 10 W := by kernel_rfl
theorem mid_Wri (A : Option Addr) (n c k : Nat) (hk : k + 1 ≤ c) (W : World) : (Instr.slice 33 (.slice A n c) (some (.int .i64 k)) (some (.int .i64 ((k : Int) + 1))) none).run Tryz.prog W = .ok (.slice (tailA A c k 10) 1 (c - k)) W := by
  rw [run_slice_lh W 33 A n c und_Wri .i64 .i64 k ((k : Int) + 1) (by omega) (by omega) (by omega), elem_Wri, size_Wri]
  simp only [sliced, Result.andThen]
  unfold tailA
  have h1 : ((k : Int) + 1).toNat = k + 1 := by omega
  rw [h1]
  simp
theorem take_one {α : Type} (l : List α) (k : Nat) (h : k < l.length) : (l.take (k + 1)).drop k = [l[k]] := by
  rw [List.take_add_one, List.getElem?_eq_getElem h, List.drop_append_of_le_length (by rw [List.length_take]; omega), List.drop_of_length_le (by rw [List.length_take]; omega)]
  rfl
theorem chunk_mid {w : World} {A : Option Addr} {c : Nat} {tb : ByteArray} {rows : List (List Val)} {k : Nat} (h : kWri.C w A (chunkW tb rows).length (chunkW tb rows)) (hk : k < rows.length) (hc : (chunkW tb rows).length ≤ c) : kWri.C w (tailA A c k 10) 1 [⟨1, tb, rdL rows k, zChg⟩] := by
  have hl : (chunkW tb rows).length = rows.length := by unfold chunkW; rw [List.length_map]
  have h2 := Kd.C_mid h (Nat.le_succ k) (by omega : k + 1 ≤ (chunkW tb rows).length) hc
  rw [take_one _ k (by omega)] at h2
  have e : (chunkW tb rows)[k]'(by omega) = ⟨1, tb, rdL rows k, zChg⟩ := by unfold chunkW; rw [List.getElem_map, ← rdL_get' hk]
  rw [e] at h2
  exact h2
set_option maxRecDepth 100000 in
set_option maxHeartbeats 8000000 in
theorem rows_law (w : World) (hL : laidMetH Tryz.prog Rows.coverRowsRow.laid w) (A0 : Option Addr) (c0 : Nat) (l0 : List Tab) (hC0 : kTab.C w A0 l0.length l0) (hc0 : l0.length ≤ c0) (ho0 : tabsOk l0) (A1 : Option Addr) (c1 : Nat) (l1 : List Wrk) (hC1 : kWrk.C w A1 l1.length l1) (hc1 : l1.length ≤ c1) (ho1 : wrksOk l1) (A2 : Option Addr) (c2 : Nat) (l2 : List (List Val)) (hC2 : kRow.C w A2 l2.length l2) (hc2 : l2.length ≤ c2) (ho2 : valssOk l2) (b : Bool) :
    Calls Tryz.prog 6 #[.slice A0 l0.length c0, .slice A1 l1.length c1, .slice A2 l2.length c2, .bool b] w fun e w' => e = .returned (.bool true) ∧ Below w.heap.size w w' := by
  have HT := Aside0.mk (tabsU_laid hL)
  have HG6 := Aside0.mk (good06_calls A0 c0 l0 (numT_ok ho0) w hC0)
  have HG11 := Aside0.mk (fun (W : World) (hb : Below w.heap.size w W) => goodW_calls A1 c1 l1 W (Kd.C_below hC1 hb))
  have HC2 := Aside0.mk hC2
  have HV := Aside0.mk (fun r hr => (⟨rowOk_num (ho2.1 r hr), rowOk_txt (ho2.1 r hr)⟩ : numOk r ∧ txtOk r))
  have hl2 : l2.length ≤ 9223372036854775807 := hC2.2.1
  clear hC0 hc0 ho0 hC1 hc1 ho1 hC2 hc2 ho2 hL
  go_enter Tryz.func6, Tryz.ntmps6
  go_upto_region 5 with (first
    | (go_at_call 17; (with_reducible refine (HG6.out).mono ?_); rintro e w1 ⟨G, gc, g, rfl, hgc, hg3, hgo, hGC, hb1⟩; have HB1 := Aside0.mk hb1; clear hb1)
    | (go_at_call 8; (with_reducible refine (HG11.out _ HB1.out).mono ?_); rintro e w2 ⟨v2, wk, rfl, hwg, hO2, hb2⟩; obtain ⟨K, kc, rfl, hkc, hKC⟩ := hO2.slice; have HB2 := Aside0.mk (bmore HB1.out hb2); have HB12 := Aside0.mk hb2; clear hb2 hO2))
  have HGC := Aside0.mk (Kd.C_below hGC HB12.out)
  have HKC := Aside0.mk hKC
  have HGo := Aside0.mk hgo
  have HWg := Aside0.mk hwg
  clear hGC hKC hgo hwg
  by_cases hz : 0 < g.length ∧ b = false
  · obtain ⟨hg0, rfl⟩ := hz
    have hg0' : ((g.length : Nat) : Int) > 0 := by omega
    obtain ⟨ad, S1, sc1, rfl, d0, d1, d2, hs1, hS1⟩ := at_Tab HGC.out 0 hg0
    rw [show ad.add (0 * 3) = ad by simp [Addr.add]] at d0 d1 d2
    have hmb := (HGo.out.2 _ (List.getElem_mem hg0)).2.1
    rw [← rdTab_get hg0] at hmb
    obtain ⟨m1, m2, m3, m4, m5⟩ := mayB_bounds hmb
    have hhas := hasT_at HGo.out.1 hg0
    have hco := fun (p : List Val → Bool) (rows : List (List Val)) => covRows_has hhas p rows
    have HR13 := Aside0.mk (rows13_calls S1 sc1 (rdTab g 0).schema ⟨by omega, m3, by omega⟩ m5 (by omega) A2 c2 l2 HV.out 10 (by omega) w2 hS1 (Kd.C_below HC2.out HB2.out))
    rw [show ((10 : Nat) : Int) = 10 from rfl] at HR13
    have HCo := Aside0.mk hco
    have HSc := Aside0.mk m4
    clear hmb m1 m2 m3 m4 m5 hhas hco hs1 hS1
    generalize (rdTab g 0).name = nm at *
    generalize (rdTab g 0).schema.cols = sc at *
    generalize (rdTab g 0).schema.keys = sk at *
    go_upto_region 8 with (go_at_call 18; (with_reducible refine (HR13.out).mono ?_); rintro e w3 ⟨R, rc, rows, rfl, hrc, hr10, hfit, hRC, hb3⟩)
    have HRC := Aside0.mk hRC
    have HOkR := Aside0.mk (fun r hr => (hfit r hr).ok (by have := HSc.out; omega))
    have HB3 := Aside0.mk (bmore HB2.out hb3)
    have HB23 := Aside0.mk hb3
    have hKT := HGo.out.key hg3
    have HCR := Aside0.mk (fun (W : World) (hb : Below w3.heap.size w3 W) => coverRows_calls (some ad) gc g K kc wk nm R rc hKT HWg.out.1 (by have := HWg.out.2.1; omega) W (Kd.C_below HGC.out (bmore hb3 hb)) (Kd.C_below HKC.out (bmore hb3 hb)) (HT.out.below (bmore HB3.out hb)) rows HOkR.out (by omega) (Kd.C_below HRC.out hb))
    have HRR := Aside0.mk (fun (W : World) (hb : Below w3.heap.size w3 W) => rows18_calls (some ad) gc g K kc wk nm R rc hKT HWg.out.1 W (Kd.C_below HGC.out (bmore hb3 hb)) (Kd.C_below HKC.out (bmore hb3 hb)) rows HOkR.out (by omega) (Kd.C_below HRC.out hb))
    simp only [HCo.out] at HRR
    have HCh := Aside0.mk (fun (W : World) (hb : Below w3.heap.size w3 W) => chunk18_calls nm R rc rows (fun r hr => (HOkR.out r hr).len) (by omega) W (Kd.C_below HRC.out hb))
    have hwl : (chunkW nm rows).length = rows.length := by unfold chunkW; rw [List.length_map]
    clear hfit hRC hb3 hKT d0 d1 d2
    generalize covRows (covE g wk nm) rows = xs at *
    go_upto_region 13 with (first
      | (go_at_call 20; (with_reducible refine (HCR.out _ (Below.refl _ _)).mono ?_); rintro e w4 ⟨v4, rfl, hO4, hb4⟩; obtain ⟨D4, d4, rfl, _, hC4⟩ := hO4.slice; have HC4 := Aside0.mk hC4; have HB4 := Aside0.mk hb4; clear hO4 hb4 hC4)
      | (go_at_call 21; (with_reducible refine (HRR.out _ HB4.out).mono ?_); rintro e w5 ⟨v5, rfl, hO5, hb5⟩; obtain ⟨D5, d5, rfl, _, hC5⟩ := hO5.slice; have HC5 := Aside0.mk hC5; have HC4' := Aside0.mk (Kd.C_below HC4.out hb5); have HB5 := Aside0.mk (bmore HB4.out hb5); clear hO5 hb5 hC5)
      | (go_at_call 19; (with_reducible refine (sameR10 _ _ _ _ xs _ HC4'.out HC5.out).mono ?_); rintro e w6 ⟨rfl, hb6⟩; have HB6 := Aside0.mk (bmore HB5.out hb6); clear hb6)
      | (go_at_call 22; (with_reducible refine (HCh.out _ HB6.out).mono ?_); rintro e w7 ⟨v7, rfl, hO7, hb7⟩; obtain ⟨D7, d7, rfl, hd7, hC7⟩ := hO7.slice; have HC7 := Aside0.mk (And.intro hd7 hC7); have HB7 := Aside0.mk (bmore HB6.out hb7); clear hO7 hb7 hd7 hC7))
    have HLv := Aside0.mk (fun (W : World) (hb : Below w.heap.size w W) => lives18_calls W (HT.out.below hb))
    have HB37 := Aside0.mk (bmore HB3.out HB7.out)
    rw [hwl] at HC7
    have HWL := Aside0.mk hwl
    have hd7 := HC7.out.1
    clear HCR HRR HCh HG6 HG11 HR13 HC4 HC5 HC4' hwl
    go_wp2
    go_loopw [14] (fun i wr => ∃ k : Nat, k ≤ rows.length ∧ i = .int .i64 k ∧ Below w7.heap.size w7 wr) (fun i _ => rows.length - (intOf i).toNat)
    case atStart => exact ⟨0, by omega, rfl, Below.refl _ _⟩
    case round =>
      obtain ⟨k, hkl, rfl, hbel⟩ := hrel
      have HBel := Aside0.mk hbel
      clear hbel
      by_cases hlt : k < rows.length
      case neg =>
        obtain rfl : k = rows.length := by omega
        go_wp2_with (go_at_call 14; (with_reducible refine (HLv.out _ (bmore HB37.out HBel.out)).mono ?_); rintro e w8 ⟨rfl, hb8⟩; have HB8 := Aside0.mk hb8; clear hb8)
        go_ret
        exact ⟨rfl, bmore (bmore HB37.out HBel.out) HB8.out⟩
      have hlt' : ((k : Nat) : Int) < (rows.length : Int) := by omega
      obtain ⟨bd, Rk, rk, rfl, d0, hrk, hRk⟩ := at_slice (d := kVal) (e := 75) HRC.out k hlt
      have HB3r := Aside0.mk (bmore HB7.out HBel.out)
      replace d0 := pw_cell_below HB3r.out d0
      have s1 := mid_Wri D7 rows.length d7 k (by omega)
      have hb9 : Below wr.heap.size wr (wr.alloc (.cells #[.int .i64 1, .string nm, .slice Rk (rdL rows k).length rk, .int .i64 0, .string ⟨#[]⟩, .slice none 0 0, .int .i64 0, .string ⟨#[]⟩, .int .i64 0, .bool false] 60)) := below_alloc (Below.refl _ _) _
      have HS := Aside0.mk (show Calls Tryz.prog 12 #[.slice (tailA D7 d7 k 10) 1 (d7 - k), .slice (some ⟨wr.heap.size, 0, none⟩) 1 1] (wr.alloc (.cells #[.int .i64 1, .string nm, .slice Rk (rdL rows k).length rk, .int .i64 0, .string ⟨#[]⟩, .slice none 0 0, .int .i64 0, .string ⟨#[]⟩, .int .i64 0, .bool false] 60)) (fun e w' => e = .returned (.bool true) ∧ Below (wr.alloc (.cells #[.int .i64 1, .string nm, .slice Rk (rdL rows k).length rk, .int .i64 0, .string ⟨#[]⟩, .slice none 0 0, .int .i64 0, .string ⟨#[]⟩, .int .i64 0, .bool false] 60)).heap.size (wr.alloc (.cells #[.int .i64 1, .string nm, .slice Rk (rdL rows k).length rk, .int .i64 0, .string ⟨#[]⟩, .slice none 0 0, .int .i64 0, .string ⟨#[]⟩, .int .i64 0, .bool false] 60)) w') from
        same14 (tailA D7 d7 k 10) (some ⟨wr.heap.size, 0, none⟩) (d7 - k) 1 [⟨1, nm, rdL rows k, zChg⟩] (wr.alloc (.cells #[.int .i64 1, .string nm, .slice Rk (rdL rows k).length rk, .int .i64 0, .string ⟨#[]⟩, .slice none 0 0, .int .i64 0, .string ⟨#[]⟩, .int .i64 0, .bool false] 60)) (Kd.C_below (chunk_mid (by rw [HWL.out]; exact HC7.out.2) hlt (by rw [HWL.out]; exact hd7)) (bmore HBel.out hb9)) (C_one (heap_alloc_new _ _) (kWri_mk _ ⟨1, nm, rdL rows k, zChg⟩ hrk (Kd.C_below hRk (bmore HB3r.out hb9)) (Nat.le_refl 0) (Kd.C_nil _ _))))
      have HB9 := Aside0.mk hb9
      clear hRk hrk hb9
      go_wp2_with (go_at_call 12; (with_reducible refine (HS.out).mono ?_); rintro e w8 ⟨rfl, hb8⟩; have HB8 := Aside0.mk hb8; clear hb8)
      go_roundw
      case rel => exact ⟨k + 1, by omega, by go_num, bmore HBel.out (bmore HB9.out HB8.out)⟩
      case measure => simp [intOf]; omega
  · have hq : g.length = 0 ∨ (0 < g.length ∧ b = true) := by
      rcases Nat.eq_zero_or_pos g.length with h | h
      · exact .inl h
      · cases b
        · exact absurd ⟨h, rfl⟩ hz
        · exact .inr ⟨h, rfl⟩
    have hKT := HGo.out.key hg3
    have HCR := Aside0.mk (fun (W : World) (hb : Below w2.heap.size w2 W) => (show Calls Tryz.prog 20 #[.slice G g.length gc, .slice K wk.length kc, .string ⟨#[122, 122]⟩, .slice none 0 0] W (fun e w' => ∃ D4 d4, e = .returned (.slice D4 0 d4) ∧ Below W.heap.size W w') from
      (coverRows_calls G gc g K kc wk ⟨#[122, 122]⟩ none 0 hKT HWg.out.1 (by have := HWg.out.2.1; omega) W (Kd.C_below HGC.out hb) (Kd.C_below HKC.out hb) (HT.out.below (bmore HB2.out hb)) [] (fun r hr => absurd hr (by simp)) (by simp) (Kd.C_nil _ _)).mono (fun e w' ⟨v, he, hO, hb⟩ => by obtain ⟨D4, d4, rfl, _⟩ := hO.slice; exact ⟨D4, d4, he, hb⟩)))
    have HRR := Aside0.mk (fun (W : World) (hb : Below w2.heap.size w2 W) => (show Calls Tryz.prog 21 #[.slice G g.length gc, .slice K wk.length kc, .string ⟨#[122, 122]⟩, .slice none 0 0] W (fun e w' => ∃ D4 d4, e = .returned (.slice D4 0 d4) ∧ Below W.heap.size W w') from
      (rows18_calls G gc g K kc wk ⟨#[122, 122]⟩ none 0 hKT HWg.out.1 W (Kd.C_below HGC.out hb) (Kd.C_below HKC.out hb) [] (fun r hr => absurd hr (by simp)) (by simp) (Kd.C_nil _ _)).mono (fun e w' ⟨v, he, hO, hb⟩ => by obtain ⟨D4, d4, rfl, _⟩ := hO.slice; exact ⟨D4, d4, he, hb⟩)))
    have HCh := Aside0.mk (fun (W : World) => (show Calls Tryz.prog 22 #[.string ⟨#[122, 122]⟩, .slice none 0 0] W (fun e w' => ∃ D4 d4, e = .returned (.slice D4 0 d4) ∧ Below W.heap.size W w') from
      (chunk18_calls ⟨#[122, 122]⟩ none 0 [] (fun r hr => absurd hr (by simp)) (by simp) W (Kd.C_nil _ _)).mono (fun e w' ⟨v, he, hO, hb⟩ => by obtain ⟨D4, d4, rfl, _⟩ := hO.slice; exact ⟨D4, d4, he, hb⟩)))
    have HSR := Aside0.mk (fun (D E : Option Addr) (d e : Nat) (W : World) => (show Calls Tryz.prog 19 #[.slice D 0 d, .slice E 0 e] W (fun e w' => e = .returned (.bool true) ∧ Below W.heap.size W w') from
      sameR10 D E d e [] W ⟨rfl, by decide, fun h => absurd h (by decide)⟩ ⟨rfl, by decide, fun h => absurd h (by decide)⟩))
    have HLv := Aside0.mk (fun (W : World) (hb : Below w.heap.size w W) => lives18_calls W (HT.out.below hb))
    clear hz hKT HG6 HG11
    rcases hq with hz | ⟨hz, rfl⟩
    all_goals
      first
        | (have hz' : ((g.length : Nat) : Int) > 0 := (by omega); skip)
        | (have hz' : ¬ ((g.length : Nat) : Int) > 0 := (by omega); clear hz)
      go_upto_region 13 with (first
        | (go_at_call 20; (with_reducible refine (HCR.out _ (Below.refl _ _)).mono ?_); rintro e w4 ⟨D4, d4, rfl, hb4⟩; have HB4 := Aside0.mk hb4; clear hb4)
        | (go_at_call 21; (with_reducible refine (HRR.out _ HB4.out).mono ?_); rintro e w5 ⟨D5, d5, rfl, hb5⟩; have HB5 := Aside0.mk (bmore HB4.out hb5); clear hb5)
        | (go_at_call 19; (with_reducible refine (HSR.out _ _ _ _ _).mono ?_); rintro e w6 ⟨rfl, hb6⟩; have HB6 := Aside0.mk (bmore HB5.out hb6); clear hb6)
        | (go_at_call 22; (with_reducible refine (HCh.out _).mono ?_); rintro e w7 ⟨D7, d7, rfl, hb7⟩; have HB7 := Aside0.mk (bmore HB6.out hb7); clear hb7))
      have HB37 := Aside0.mk (bmore HB2.out HB7.out)
      go_wp2
      go_loopw [14] (fun i wr => i = .int .i64 0 ∧ Below w7.heap.size w7 wr) (fun _ _ => 0)
      case atStart => exact ⟨rfl, Below.refl _ _⟩
      case round =>
        obtain ⟨rfl, hbel⟩ := hrel
        have HBel := Aside0.mk hbel
        clear hbel
        go_wp2_with (go_at_call 14; (with_reducible refine (HLv.out _ (bmore HB37.out HBel.out)).mono ?_); rintro e w8 ⟨rfl, hb8⟩; have HB8 := Aside0.mk hb8; clear hb8)
        go_ret
        exact ⟨rfl, bmore (bmore HB37.out HBel.out) HB8.out⟩
end Go.Proofs.YtmdofdaiepilbaaGreatDoor
