/- wal: the group of nothing as bytes, and read again. Conditions: none. -/
import Derived.Test.YtapcoekakbbmcaaGreatDoorChunkNil
import Derived.Test.YtapcoekakbbmcaaGreatDoorRangeNone
namespace Go.Proofs.YtapcoekakbbmcaaGreatDoor
open Go.RowKit Go.Proofs.YtapcoekakbbmcaaGreatDoorW.PrintWords Go.Shelf
set_option linter.unusedVariables false
set_option linter.unusedSimpArgs false
/-- the iterator, where there are no writes: the tables come to out -/
theorem steps1_nil (l : Nat) (bl bo bw q : Nat) (A : Option Addr) (n c : Nat) (W : World) (h1 : W.cell? ⟨bl, 0, none⟩ = some (.slice A n c)) (h2 : W.cell? ⟨bo, 0, none⟩ = some (.pointer (some ⟨q, 0, none⟩))) (h3 : W.cell? ⟨bw, 0, none⟩ = some (.slice none 0 0)) (hne : bw ≠ q) (hq : (W.cell? ⟨q, 0, none⟩).isSome = true) (hf : W.frozen? ⟨q, 0, none⟩ = false) :
    Calls Tryz.prog 94 #[.func (.yield l) #[] #[], .pointer (some ⟨bl, 0, none⟩), .pointer (some ⟨bo, 0, none⟩), .pointer (some ⟨bw, 0, none⟩)] W fun e w' => e = .returned (.tuple #[]) ∧ w' = W.setCell ⟨q, 0, none⟩ (.slice A n c) := by
  obtain ⟨u, hu⟩ := Option.isSome_iff_exists.1 hq
  have h3' : (W.setCell ⟨q, 0, none⟩ (.slice A n c)).cell? ⟨bw, 0, none⟩ = some (.slice none 0 0) := (World.cell?_setCell_other _ _ _ _ (fun e => hne (congrArg Addr.block e).symm)).trans h3
  clear hq hne
  go_enter Tryz.func94, Tryz.ntmps94
  go_wp2
  refine wp_loop_rounds 1 ?_
  rw [rounds_succ]
  go_wp2
  go_end0
  exact ⟨rfl, rfl⟩
theorem steps_calls (A B : Option Addr) (n c m d q : Nat) (w : World) : Calls Tryz.prog 52 #[.slice A n c, .slice B m d, .pointer (some ⟨q, 0, none⟩)] w fun e w' => e = .returned (.func (.func 94) #[] #[.pointer (some ⟨w.heap.size, 0, none⟩), .pointer (some ⟨w.heap.size + 2, 0, none⟩), .pointer (some ⟨w.heap.size + 1, 0, none⟩)]) ∧ w' = ((w.alloc (.cells #[.slice A n c] 42)).alloc (.cells #[.slice B m d] 39)).alloc (.cells #[.pointer (some ⟨q, 0, none⟩)] 99) := by
  go_enter Tryz.func52, Tryz.ntmps52
  go_wp2
  go_ret
  exact ⟨rfl, rfl⟩
theorem R_move {W W' : World} {base : Nat} {v : Value} {l : List Int} (h : kByt.R 5 W base (fun _ => True) v l) (hk : ∀ g, v.ownBlock = some g → W'.heap[g]? = W.heap[g]?) : kByt.R 5 W' base (fun _ => True) v l := by
  refine Kd.R_of_own (enc := Value.int .u8) (h1 := fun _ => rfl) ?_ (fun _ _ => trivial)
  have ho := Kd.own_of_R h
  refine ⟨ho.1, ?_⟩
  rcases ho.2 with h0 | ⟨g, cap, cur, rfl, hg, hgg, h1⟩
  · exact .inl h0
  · exact .inr ⟨g, cap, cur, rfl, hg, (hk g rfl).trans hgg, h1⟩
theorem R_lt {W : World} {base : Nat} {v : Value} {l : List Int} (h : kByt.R 5 W base (fun _ => True) v l) : ∀ g, v.ownBlock = some g → base ≤ g ∧ g < W.heap.size := fun g hg => (Kd.own_of_R h).lt g hg
/-- what wal.Write of nothing answers -/
def WwTell (w : World) (x : Ending) (w' : World) : Prop := ∃ v, x = .returned (.tuple #[v, .int .i64 0]) ∧ kByt.R 5 w' w.heap.size (fun _ => True) v (zeros 5) ∧ Below w.heap.size w w'
set_option maxRecDepth 100000 in
set_option maxHeartbeats 2000000 in
theorem wwrite_nil (w : World) : Calls Tryz.prog 20 #[.slice none 0 0, .slice none 0 0, .agg #[.int .i64 0, .int .i64 0, .int .i64 0, .slice none 0 0]] w (WwTell w) := by
  refine (callsIn_wide (n := 3)).1 ?_
  refine callsIn_of_wp_marks Tryz.func20 rfl trivial ?_ rfl
  simp only [Tryz.ntmps20, List.size_toArray, List.length_cons, List.length_nil, Nat.reduceAdd, Nat.reduceSub, Array.replicate_succ, Array.replicate_zero, List.push_toArray, List.append_toArray, List.nil_append, List.cons_append]
  refine wpIn_wide.2 ?_
  go_wp2_with fail
  obtain ⟨Wa, hWa⟩ : ∃ Wa, ((w.alloc (.cells #[.int .i64 0, .int .i64 0, .int .i64 0, .slice none 0 0] 47)).alloc (.cells #[.slice none 0 0] 43)).alloc (.cells #[.int .i64 0] 48) = Wa := ⟨_, rfl⟩
  have hsa : Wa.heap.size = w.heap.size + 3 := by rw [← hWa]; simp
  have hba : Below w.heap.size w Wa := by rw [← hWa]; exact (((Below.refl _ _).alloc (Nat.le_refl _) _).alloc (by simp) _).alloc (by simp; omega) _
  have ha1 : Wa.heap[w.heap.size + 1]? = some (.cells #[.slice none 0 0] 43 (0, 0)) := by
    rw [← hWa]
    exact ((Below.refl _ ((w.alloc (.cells #[.int .i64 0, .int .i64 0, .int .i64 0, .slice none 0 0] 47)).alloc (.cells #[.slice none 0 0] 43))).alloc (Nat.le_refl _) (.cells #[.int .i64 0] 48) |>.block (w.heap.size + 1) (by simp)).trans (heap_alloc2_new _ _ _)
  have ha2 : Wa.heap[w.heap.size + 2]? = some (.cells #[.int .i64 0] 48 (0, 0)) := by
    rw [← hWa]
    have := heap_alloc_new ((w.alloc (.cells #[.int .i64 0, .int .i64 0, .int .i64 0, .slice none 0 0] 47)).alloc (.cells #[.slice none 0 0] 43)) (.cells #[.int .i64 0] 48)
    rwa [show ((w.alloc (.cells #[.int .i64 0, .int .i64 0, .int .i64 0, .slice none 0 0] 47)).alloc (.cells #[.slice none 0 0] 43)).heap.size = w.heap.size + 2 by simp] at this
  rw [hWa]
  clear hWa
  have HSA := Aside0.mk hsa
  have HBA := Aside0.mk hba
  have HA1 := Aside0.mk ha1
  have HA2 := Aside0.mk ha2
  clear hsa hba ha1 ha2
  refine ((write_nil _)).mono ?_
  rintro e w2 ⟨v2, rfl, hR2, hb2⟩
  have HR2 := Aside0.mk hR2
  have HB2 := Aside0.mk hb2
  clear hR2 hb2
  go_wp2_with fail
  refine ((number_small none 0 0 [] 0 _ (Kd.C_nil _ _) (by decide) (by decide) (by decide) (by decide))).mono ?_
  rintro e w3 ⟨v3, rfl, hR3, hb3⟩
  obtain ⟨A3, c3, rfl⟩ := Kd.R_slice hR3
  have HR3 := Aside0.mk hR3
  have HB3 := Aside0.mk hb3
  clear hR3 hb3
  go_wp2_with fail
  obtain ⟨Wb, hWb⟩ : ∃ Wb, ((w3.alloc (.cells #[.slice A3 1 c3] 43)).alloc (.cells #[.slice none 0 0] 42)) = Wb := ⟨_, rfl⟩
  have hsb : Wb.heap.size = w3.heap.size + 2 := by rw [← hWb]; simp
  have hbb : Below w3.heap.size w3 Wb := by rw [← hWb]; exact ((Below.refl _ _).alloc (Nat.le_refl _) _).alloc (by simp) _
  have hb0 : Wb.heap[w3.heap.size]? = some (.cells #[.slice A3 1 c3] 43 (0, 0)) := by rw [← hWb]; exact heap_alloc2_old _ _ _
  have hb1 : Wb.heap[w3.heap.size + 1]? = some (.cells #[.slice none 0 0] 42 (0, 0)) := by rw [← hWb]; exact heap_alloc2_new _ _ _
  rw [hWb]
  clear hWb
  refine ((steps_calls none none 0 0 0 0 (w3.heap.size + 1) _)).mono ?_
  rintro e Wc ⟨rfl, hWc⟩
  have hsc : Wc.heap.size = w3.heap.size + 5 := by rw [hWc]; simp [hsb]
  have hbc : Below Wb.heap.size Wb Wc := by rw [hWc]; exact (((Below.refl _ _).alloc (Nat.le_refl _) _).alloc (by simp) _).alloc (by simp; omega) _
  have hc2 : Wc.cell? ⟨w3.heap.size + 2, 0, none⟩ = some (.slice none 0 0) := by
    rw [hWc, ← hsb]
    have h := (Below.refl _ ((Wb.alloc (.cells #[.slice none 0 0] 42)).alloc (.cells #[.slice none 0 0] 39))).alloc (Nat.le_refl _) (.cells #[.pointer (some ⟨w3.heap.size + 1, 0, none⟩)] 99)
    exact pw_cell_below h (cell_of_row _ _ 0 _ _ _ (heap_alloc2_old _ _ _))
  have hc3 : Wc.cell? ⟨w3.heap.size + 3, 0, none⟩ = some (.slice none 0 0) := by
    rw [hWc, show w3.heap.size + 3 = Wb.heap.size + 1 by omega]
    have h := (Below.refl _ ((Wb.alloc (.cells #[.slice none 0 0] 42)).alloc (.cells #[.slice none 0 0] 39))).alloc (Nat.le_refl _) (.cells #[.pointer (some ⟨w3.heap.size + 1, 0, none⟩)] 99)
    exact pw_cell_below h (cell_of_row _ _ 0 _ _ _ (heap_alloc2_new _ _ _))
  have hc4 : Wc.cell? ⟨w3.heap.size + 4, 0, none⟩ = some (.pointer (some ⟨w3.heap.size + 1, 0, none⟩)) := by
    rw [hWc]
    have h := heap_alloc_new ((Wb.alloc (.cells #[.slice none 0 0] 42)).alloc (.cells #[.slice none 0 0] 39)) (.cells #[.pointer (some ⟨w3.heap.size + 1, 0, none⟩)] 99)
    rw [show ((Wb.alloc (.cells #[.slice none 0 0] 42)).alloc (.cells #[.slice none 0 0] 39)).heap.size = w3.heap.size + 4 by simp [hsb]] at h
    exact cell_of_row _ _ 0 _ _ _ h
  have hcb0 := (hbc.block w3.heap.size (by omega)).trans hb0
  have hcb1 := (hbc.block (w3.heap.size + 1) (by omega)).trans hb1
  have hb3c : Below w3.heap.size w3 Wc := hbb.trans (hbc.mono (by omega))
  have HSC := Aside0.mk hsc
  have HC2 := Aside0.mk hc2
  have HC3 := Aside0.mk hc3
  have HC4 := Aside0.mk hc4
  have HCB0 := Aside0.mk hcb0
  have HCB1 := Aside0.mk hcb1
  have HB3C := Aside0.mk hb3c
  have e2 : Wb.heap.size = w3.heap.size + 2 := hsb
  rw [e2]
  clear hsb hbb hb0 hb1 hWc hsc hbc hc2 hc3 hc4 hcb0 hcb1 hb3c e2
  go_wp2_with fail
  refine rangeFunc_none_wp (gf := 94) (lb := #[.pointer (some ⟨w3.heap.size + 2, 0, none⟩), .pointer (some ⟨w3.heap.size + 2 + 2, 0, none⟩), .pointer (some ⟨w3.heap.size + 2 + 1, 0, none⟩)]) rfl (enters_of Tryz.func94 (by kernel_rfl) rfl) (Post := fun W1 W2 => W2 = W1.setCell ⟨w3.heap.size + 1, 0, none⟩ (.slice none 0 0)) ?_ ?_
  · intro W1 hB hs1
    have f1 : W1.cell? ⟨w3.heap.size + 1, 0, none⟩ = some (.slice none 0 0) := pw_cell_below hB (cell_of_row Wc _ 0 _ _ _ HCB1.out)
    have f2 : W1.frozen? ⟨w3.heap.size + 1, 0, none⟩ = false := frozen_of_row W1 _ 0 _ _ ((hB.block _ (by have := HSC.out; omega)).trans HCB1.out)
    refine (steps1_nil (Wc.heap.size + 1) (w3.heap.size + 2) (w3.heap.size + 4) (w3.heap.size + 3) (w3.heap.size + 1) none 0 0 W1 (pw_cell_below hB HC2.out) (pw_cell_below hB HC4.out) (pw_cell_below hB HC3.out) (by omega) (by rw [f1]; rfl) f2).mono ?_
    rintro e W2 ⟨rfl, rfl⟩
    have := HSC.out
    exact ⟨⟨_, rfl⟩, heap_setCell_other _ _ _ _ (by simp only; omega), heap_setCell_other _ _ _ _ (by simp only; omega), rfl⟩
  · intro W1 W2 o hB hs1 hP hK
    have hkeep : ∀ k, k < Wc.heap.size → k ≠ w3.heap.size + 1 → (W2.putObj (Wc.heap.size + 1) o).heap[k]? = Wc.heap[k]? := fun k hk hne => by
      rw [World.putObj_heap_other (by omega), hP, heap_setCell_other _ _ _ _ (by simpa using hne)]
      exact hB.block k hk
    have hsz : (W2.putObj (Wc.heap.size + 1) o).heap.size = Wc.heap.size + 2 := by rw [hP]; simp [World.putObj, World.setCell, hs1]
    have hbel : Below w.heap.size w (W2.putObj (Wc.heap.size + 1) o) := by
      have s2 := HB2.out.size
      have s3 := HB3.out.size
      have sa := HSA.out
      have sc := HSC.out
      have b1 : Below w.heap.size w W1 := (((HBA.out.trans (HB2.out.mono (by omega))).trans (HB3.out.mono (by omega))).trans (HB3C.out.mono (by omega))).trans (hB.mono (by omega))
      have b2 : Below w.heap.size w W2 := by rw [hP]; exact below_cell b1 (by omega)
      exact ⟨b2.os, b2.tape, b2.output, by rw [hsz]; omega, fun k hk => by rw [World.putObj_heap_other (by omega)]; exact b2.block k hk⟩
    have HBel := Aside0.mk hbel
    have HKeep := Aside0.mk hkeep
    have HSz := Aside0.mk hsz
    have HK := Aside0.mk hK
    clear hbel hkeep hsz hK hP hB hs1
    generalize W2.putObj (Wc.heap.size + 1) o = W6 at *
    have z1 : w3.heap.size < Wc.heap.size := by have := HSC.out; omega
    have z2 : w.heap.size + 2 < Wc.heap.size := by have := HSC.out; have := HSA.out; have := HB2.out.size; have := HB3.out.size; omega
    have z3 : w.heap.size + 2 < w3.heap.size + 1 := by have := HSA.out; have := HB2.out.size; have := HB3.out.size; omega
    have g10 : W6.cell? ⟨w3.heap.size, 0, none⟩ = some (.slice A3 1 c3) := cell_of_row W6 _ 0 _ _ _ ((HKeep.out _ z1 (by omega)).trans HCB0.out)
    have g6r : W6.heap[w.heap.size + 1]? = some (.cells #[.slice none 0 0] 43 (0, 0)) := by
      have y1 := HSA.out
      have y2 := HB2.out.size
      have y3 := HB3.out.size
      have y4 := HSC.out
      rw [HKeep.out _ (by omega) (by omega), HB3C.out.block _ (by omega), HB3.out.block _ (by omega), HB2.out.block _ (by omega)]
      exact HA1.out
    have g7r : W6.heap[w.heap.size + 2]? = some (.cells #[.int .i64 0] 48 (0, 0)) := by
      have y1 := HSA.out
      have y2 := HB2.out.size
      have y3 := HB3.out.size
      have y4 := HSC.out
      rw [HKeep.out _ (by omega) (by omega), HB3C.out.block _ (by omega), HB3.out.block _ (by omega), HB2.out.block _ (by omega)]
      exact HA2.out
    have hR3 : kByt.R 5 W6 w2.heap.size (fun _ => True) (.slice A3 1 c3) [0] := R_move (v := .slice A3 1 c3) (l := [0]) HR3.out (fun g hg => by
      obtain ⟨p1, p2⟩ := R_lt HR3.out g hg
      have y4 := HSC.out
      rw [HKeep.out _ (by omega) (by omega)]
      exact HB3C.out.block g p2)
    obtain ⟨A2, c2, rfl, hc2', hC2⟩ := Kd.R_reads HR2.out
    have hC2' : kByt.C W6 A2 4 (zeros 4) := by
      have hm := R_move (W' := W6) HR2.out (fun g hg => by
        obtain ⟨p1, p2⟩ := R_lt HR2.out g hg
        have y4 := HSC.out
        have := HB3.out.size
        rw [HKeep.out _ (by omega) (by omega), HB3C.out.block g (by omega)]
        exact HB3.out.block g p2)
      exact (Kd.R_reads' hm).2.2
    have hlen4 : (zeros 4).length = 4 := rfl
    rw [hlen4] at hc2' ⊢
    clear hC2 hlen4
    have HR3' := Aside0.mk hR3
    have HC2' := Aside0.mk hC2'
    have g6 : W6.cell? ⟨w.heap.size + 1, 0, none⟩ = some (.slice none 0 0) := cell_of_row W6 _ 0 _ _ _ g6r
    have g7 : W6.cell? ⟨w.heap.size + 2, 0, none⟩ = some (.int .i64 0) := cell_of_row W6 _ 0 _ _ _ g7r
    have HG6 := Aside0.mk g6r
    have HG7 := Aside0.mk g7r
    clear hR3 hC2' g6r g7r
    have hbase : w2.heap.size ≤ W6.heap.size := by have := HB3.out.size; rw [HSz.out]; omega
    have HA := Aside0.mk (show ∀ v7 w7, kByt.R 5 w7 w2.heap.size (fun _ => True) v7 ([0] ++ zeros 4) → Below w2.heap.size W6 w7 → W6.grownBy w7 (Value.slice A3 1 c3).ownBlock →
        w7.cell? ⟨w.heap.size + 1, 0, none⟩ = some (.slice none 0 0) ∧ w7.cell? ⟨w.heap.size + 2, 0, none⟩ = some (.int .i64 0) ∧ w7.frozen? ⟨w.heap.size + 1, 0, none⟩ = false ∧ w7.frozen? ⟨w.heap.size + 2, 0, none⟩ = false ∧ w7.heap[Wc.heap.size]? = some (.deferred (some [])) from fun v7 w7 hR7 hb7 hg7 => by
      have y1 := HSA.out
      have y2 := HB2.out.size
      have k6 := (hb7.block (w.heap.size + 1) (by omega)).trans HG6.out
      have k7 := (hb7.block (w.heap.size + 2) (by omega)).trans HG7.out
      refine ⟨cell_of_row w7 _ 0 _ _ _ k6, cell_of_row w7 _ 0 _ _ _ k7, frozen_of_row w7 _ 0 _ _ k6, frozen_of_row w7 _ 0 _ _ k7, ?_⟩
      rw [hg7.block Wc.heap.size (by rw [HSz.out]; omega) (fun e => by
        have := (R_lt HR3.out Wc.heap.size e.symm).2
        omega)]
      exact HK.out)
    go_wp2_with (refine appN (w0 := W6) w2.heap.size rfl (.tmp 47) (.tmp 48) rfl (.slice A3 1 c3) [0] (zeros 4) A2 4 c2 rfl rfl HR3'.out HC2'.out (Below.refl _ _) hbase (by decide) ?_; intro v7 w7 hR7 hb7 hg7; obtain ⟨q6, q7, qz6, qz7, qK⟩ := HA.out v7 w7 hR7 hb7 hg7; obtain ⟨A7, c7, rfl⟩ := Kd.R_slice hR7; have HR7 := Aside0.mk hR7; have HB7 := Aside0.mk hb7; have QK := Aside0.mk qK; clear hR7 hb7 hg7 qK)
    have hz5 : (zeros 4).length + 1 = 5 := rfl
    rw [hz5]
    have n12 : w.heap.size + 1 ≠ w.heap.size + 2 := by omega
    have r6 : ((w7.setCell ⟨w.heap.size + 1, 0, none⟩ (.slice A7 5 c7)).setCell ⟨w.heap.size + 2, 0, none⟩ (.int .i64 0)).cell? ⟨w.heap.size + 1, 0, none⟩ = some (.slice A7 5 c7) := by
      rw [World.cell?_setCell_other _ _ _ _ (fun e => n12 (congrArg Addr.block e).symm)]
      exact World.cell?_setCell_same _ _ _ q6
    have r7 : ((w7.setCell ⟨w.heap.size + 1, 0, none⟩ (.slice A7 5 c7)).setCell ⟨w.heap.size + 2, 0, none⟩ (.int .i64 0)).cell? ⟨w.heap.size + 2, 0, none⟩ = some (.int .i64 0) := by
      have q7' : (w7.setCell ⟨w.heap.size + 1, 0, none⟩ (.slice A7 5 c7)).cell? ⟨w.heap.size + 2, 0, none⟩ = some (.int .i64 0) := by
        rw [World.cell?_setCell_other _ _ _ _ (fun e => n12 (congrArg Addr.block e))]
        exact q7
      exact World.cell?_setCell_same _ _ _ q7'
    have rK : ((w7.setCell ⟨w.heap.size + 1, 0, none⟩ (.slice A7 5 c7)).setCell ⟨w.heap.size + 2, 0, none⟩ (.int .i64 0)).heap[Wc.heap.size]? = some (.deferred (some [])) := by
      rw [heap_setCell_other _ _ _ _ (by simp only; omega), heap_setCell_other _ _ _ _ (by simp only; omega)]
      exact QK.out
    obtain ⟨W8, hW8⟩ : ∃ W8, (w7.setCell ⟨w.heap.size + 1, 0, none⟩ (.slice A7 5 c7)).setCell ⟨w.heap.size + 2, 0, none⟩ (.int .i64 0) = W8 := ⟨_, rfl⟩
    rw [hW8] at r6 r7 rK
    rw [show w.heap.size + 1 + 1 = w.heap.size + 2 from rfl, hW8]
    refine ⟨by simp, .inl ⟨_, _, rfl, run_takeDeferred rK, ?_⟩⟩
    have y1 := HSA.out
    have y2 := HB2.out.size
    have y3 := HB3.out.size
    have y4 := HSC.out
    have hp : ∀ k, k ≠ Wc.heap.size → (W8.putObj Wc.heap.size (.deferred none)).heap[k]? = W8.heap[k]? := fun k hk => World.putObj_heap_other (by omega)
    have s6 : (W8.putObj Wc.heap.size (.deferred none)).cell? ⟨w.heap.size + 1, 0, none⟩ = some (.slice A7 5 c7) := (World.cell?_of_block (hp _ (by simp only; omega))).trans r6
    have s7 : (W8.putObj Wc.heap.size (.deferred none)).cell? ⟨w.heap.size + 2, 0, none⟩ = some (.int .i64 0) := (World.cell?_of_block (hp _ (by simp only; omega))).trans r7
    refine ⟨.tuple #[.slice A7 5 c7, .int .i64 0], by simp [results, Tryz.results20, go_sem, s6, s7], ?_⟩
    have b8 : Below w.heap.size w W8 := by
      rw [← hW8]
      exact below_cell (below_cell (HBel.out.trans (HB7.out.mono (by omega))) (by omega)) (by omega)
    have hs8 : W8.heap.size = w7.heap.size := by rw [← hW8]; simp [World.setCell]
    refine ⟨.slice A7 5 c7, rfl, ?_, ⟨b8.os, b8.tape, b8.output, by simpa [World.putObj] using b8.size, fun k hk => (hp k (by omega)).trans (b8.block k hk)⟩⟩
    refine Kd.R_lower (R_move (v := .slice A7 5 c7) (l := zeros 5) HR7.out (fun g hg => ?_)) (by omega)
    have hl := R_lt HR7.out g hg
    rw [hp g (fun e => by
      subst e
      have hg : (Value.slice A7 ([0] ++ zeros 4).length c7).ownBlock = some Wc.heap.size := hg
      rcases (Kd.own_of_R HR7.out).2 with ⟨h0, _⟩ | ⟨g', cap, cur, h1, _, h2, _⟩
      · rw [h0] at hg; cases hg
      · rw [h1] at hg
        have hgg : g' = Wc.heap.size := by injection hg
        rw [hgg, QK.out] at h2
        cases h2), ← hW8, heap_setCell_other _ _ _ _ (by simp only; omega), heap_setCell_other _ _ _ _ (by simp only; omega)]
def WrTell (w : World) (x : Ending) (w' : World) : Prop := x = .returned (.tuple #[.slice none 0 0, .agg #[.int .i64 0, .int .i64 0, .int .i64 0, .slice none 0 0], .int .i64 0]) ∧ Below w.heap.size w w'
set_option maxRecDepth 100000 in
set_option maxHeartbeats 2000000 in
theorem wread_nil {A : Option Addr} {c : Nat} (w : World) (hC : kByt.C w A 5 (zeros 5)) (hc : 5 ≤ c) : Calls Tryz.prog 16 #[.slice none 0 0, .slice A 5 c] w (WrTell w) := by
  have HC := Aside0.mk hC
  clear hC
  go_enter Tryz.func16, Tryz.ntmps16
  go_upto_block 0 with (first
    | (go_at_call 35; (with_reducible refine (zread (Kd.C_below HC.out ((Below.refl _ _).alloc (Nat.le_refl _) _)) hc).mono ?_); rintro e w2 ⟨rfl, h2, hb2⟩; have HB2 := Aside0.mk (((Below.refl w.heap.size w).alloc (Nat.le_refl _) (.cells #[.int .i64 0, .int .i64 0, .int .i64 0, .slice none 0 0] 47)).trans (hb2.mono (by simp))); have KR2 := Aside0.mk ((hb2.block w.heap.size (by simp)).trans (heap_alloc_new w (.cells #[.int .i64 0, .int .i64 0, .int .i64 0, .slice none 0 0] 47))); rw [World.size_alloc] at h2; have H2 := Aside0.mk h2; clear h2 hb2)
    | (go_at_call 36; (with_reducible refine (znumber (n := 4) H2.out).mono ?_); rintro e w3 ⟨rfl, h3, hw3⟩; have H3 := Aside0.mk h3; have HW3 := Aside0.mk hw3; clear h3 hw3))
  have hbw : Below w.heap.size w w3 := by
    obtain ⟨v3, h3⟩ := HW3.out
    rw [h3]
    exact below_cell HB2.out (by omega)
  have kr : w3.heap[w.heap.size]? = some (.cells #[.int .i64 0, .int .i64 0, .int .i64 0, .slice none 0 0] 47 (0, 0)) := by
    obtain ⟨v3, h3⟩ := HW3.out
    rw [h3, heap_setCell_other _ _ _ _ (by simp only; omega)]
    exact KR2.out
  have HBW := Aside0.mk hbw
  have HKr := Aside0.mk kr
  have htl := fun W => tail_run A 5 c 1 (by decide) hc W
  have HCt := Aside0.mk (fun (W : World) (hb : Below w.heap.size w W) => (show kByt.C W (tailA A c 1) 4 (zeros 4) from tail_C (Kd.C_below HC.out hb) (k := 1) (by decide) hc))
  have hc4 : 4 ≤ c - 1 := by omega
  generalize tailA A c 1 = T at *
  generalize c - 1 = c1 at *
  have HT := Aside0.mk (fun (e : Int) (he : e = 1) (W : World) => (show (Instr.slice 43 (.slice A 5 c) (some (.int .i64 e)) none none).run Tryz.prog W = .ok (.slice T 4 c1) W from by rw [he]; exact htl W))
  have ht1 := fun W => HT.out 1 rfl W
  clear htl kr hbw
  go_wp2
  refine wp_loop_rounds 1 ?_
  rw [rounds_succ]
  go_wp2_with (first
    | (go_at_call 40; (with_reducible refine (zerrno H3.out).mono ?_); rintro e w4 ⟨rfl, rfl⟩)
    | (go_at_call 42; (with_reducible refine (zleft H3.out).mono ?_); rintro e w5 ⟨rfl, rfl⟩)
    | (go_at_call 41; (with_reducible refine (cread_nil _ (HCt.out _ HBW.out) hc4).mono ?_); rintro e w6 ⟨rfl, hb6⟩; have kr8 := (hb6.block w.heap.size (Array.getElem?_eq_some_iff.1 HKr.out).1).trans HKr.out; have HB6 := Aside0.mk (HBW.out.trans (hb6.mono HBW.out.size)); have HKr8 := Aside0.mk kr8; clear hb6 kr8))
  have hlt6 : w.heap.size < w6.heap.size := (Array.getElem?_eq_some_iff.1 HKr8.out).1
  have hb7 : Below w6.heap.size w6 (w6.alloc (.cells #[.int .i64 0, .int .i64 0, .int .i64 0, .slice none 0 0] 47)) := (Below.refl _ _).alloc (Nat.le_refl _) _
  have kr7 := (hb7.block w.heap.size hlt6).trans HKr8.out
  have kp7 := heap_alloc_new w6 (.cells #[.int .i64 0, .int .i64 0, .int .i64 0, .slice none 0 0] 47)
  have HB7 := Aside0.mk (HB6.out.trans (hb7.mono HB6.out.size))
  generalize w6.alloc (.cells #[.int .i64 0, .int .i64 0, .int .i64 0, .slice none 0 0] 47) = w7 at *
  have q0 : w7.cell? ⟨w6.heap.size, 0, none⟩ = some (.int .i64 0) := cell_of_row w7 _ 0 _ _ _ kp7
  have q1 : w7.cell? ⟨w6.heap.size, 1, none⟩ = some (.int .i64 0) := cell_of_row w7 _ 1 _ _ _ kp7
  have q2 : w7.cell? ⟨w6.heap.size, 2, none⟩ = some (.int .i64 0) := cell_of_row w7 _ 2 _ _ _ kp7
  have q3 : w7.cell? ⟨w6.heap.size, 3, none⟩ = some (.slice none 0 0) := cell_of_row w7 _ 3 _ _ _ kp7
  have p0 : w7.cell? ⟨w.heap.size, 0, none⟩ = some (.int .i64 0) := cell_of_row w7 _ 0 _ _ _ kr7
  have p1 : w7.cell? ⟨w.heap.size, 1, none⟩ = some (.int .i64 0) := cell_of_row w7 _ 1 _ _ _ kr7
  have p2 : w7.cell? ⟨w.heap.size, 2, none⟩ = some (.int .i64 0) := cell_of_row w7 _ 2 _ _ _ kr7
  have p3 : w7.cell? ⟨w.heap.size, 3, none⟩ = some (.slice none 0 0) := cell_of_row w7 _ 3 _ _ _ kr7
  have z0 := frozen_of_row w7 w.heap.size 0 _ _ kr7
  have z1 := frozen_of_row w7 w.heap.size 1 _ _ kr7
  have z2 := frozen_of_row w7 w.heap.size 2 _ _ kr7
  have z3 := frozen_of_row w7 w.heap.size 3 _ _ kr7
  clear hb7 kr7 kp7
  go_region
  all_goals
    go_wp2
    exact bodyPost_ret (v := .tuple #[.slice none 0 0, .agg #[.int .i64 0, .int .i64 0, .int .i64 0, .slice none 0 0], .int .i64 0]) (by simp [results, Tryz.results16, go_sem, p0, p1, p2, p3]) rfl ⟨rfl, ((((HB7.out.setCell (Nat.le_refl _) _).setCell (Nat.le_refl _) _).setCell (Nat.le_refl _) _).setCell (Nat.le_refl _) _).drew⟩
end Go.Proofs.YtapcoekakbbmcaaGreatDoor
