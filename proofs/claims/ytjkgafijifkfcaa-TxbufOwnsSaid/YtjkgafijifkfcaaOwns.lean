/- The law TxbufOwns comes to true for every row of values. Conditions: the values read so. -/
import Derived.Test.YtjkgafijifkfcaaOwns0
namespace Go.Proofs.Ytjkgafijifkfcaa
open Go.RowKit Go.Proofs.YtjkgafijifkfcaaW.PrintWords
set_option linter.unusedVariables false
set_option linter.unusedSimpArgs false
set_option maxRecDepth 100000 in
set_option maxHeartbeats 8000000 in
theorem owns_any (w : World) (A : Option Addr) (c : Nat) (l : List Val) (hC : kVal.C w A l.length l) (hc : l.length ≤ c) (ho : rowOk l) :
    Calls Try.prog 6 #[.slice A l.length c] w fun e w' => e = .returned (.bool true) ∧ Below w.heap.size w w' := by
  have hlen : l.length ≤ 9223372036854775807 := hC.2.1
  have HR := Aside0.mk hC
  clear hC ho
  obtain ⟨ys, hys⟩ : ∃ ys, l.take 5 = ys := ⟨_, rfl⟩
  have HYS := Aside0.mk hys
  clear hys
  go_enter Try.func6, Try.ntmps6
  go_upto_if 16 with (go_at_call 21; (with_reducible refine (txnew_5 _).mono ?_); rintro e w1 ⟨rfl, rfl⟩)
  go_cut [0] (fun s0 w' => (w.alloc (.cells #[.int .i64 5, .int .i64 (-1), .slice none 0 0] 73)) = w' ∧ s0 = .slice A ys.length c)
  case first =>
    by_cases h : l.length ≤ 5
    · go_wp2
      go_meet
      case rel => exact ⟨rfl, by rw [← HYS.out, List.take_of_length_le h]⟩
    · go_wp2
      go_meet
      case rel => exact ⟨rfl, by rw [← HYS.out]; simp; omega⟩
  obtain ⟨rfl, rfl⟩ := hcut
  have hyl : ys.length ≤ 5 := by rw [← HYS.out, List.length_take]; omega
  have HY := Aside0.mk (show kVal.C w A ys.length ys from by have := Kd.C_take (m := min 5 l.length) HR.out (by omega); rwa [show l.take (min 5 l.length) = ys from by rw [← HYS.out]; simp [List.take_eq_take_iff]] at this)
  have HB0 := Aside0.mk (buf_new w 5)
  clear HR HYS
  generalize hw1 : w.alloc (.cells #[.int .i64 5, .int .i64 (-1), .slice none 0 0] 73) = w1 at *
  have HW1 := Aside0.mk (show Below w.heap.size w w1 from hw1 ▸ below_alloc (Below.refl _ _) _)
  have hs1 : w1.heap.size = w.heap.size + 1 := by rw [← hw1]; simp
  have HS1 := Aside0.mk hs1
  have HBlk1 := Aside0.mk (show BufO (fun _ => False) w1 w.heap.size 5 (-1) [] from hw1 ▸ ⟨none, 0, heap_alloc_new _ _, EvRowO.nil _ _ _⟩)
  clear hw1 hs1 HB0
  go_wp2_with (first
    | (at_builtin; refine R_append_rows_two kVal (w0 := w1) w1.heap.size rfl (.tmp 19) (.tmp 20) 34 31 36 36 (.agg #[.int .i64 0, .int .i64 0, .string ⟨#[]⟩]) 32 rfl Try.underlying34 Try.underlying31 infoVal rfl (by decide) (by decide) none 0 0 [] ys A ys.length c (fun _ => True) (fun _ => False) rfl rfl (Kd.R_nil _ _ _ _ _) (Kd.C_below HY.out HW1.out) (fun x cs h => by obtain rfl := kVal_open h; exact kVal_mkM _ _ _ _) (fun k hk => hk.elim) (fun _ _ => trivial) (Below.refl _ _) (Nat.le_refl _) (by simp; omega) ?_; intro v2 w2 hR2 hb2 hg2 hat2; rw [List.nil_append] at hR2; obtain ⟨A2, c2, rfl⟩ := Kd.R_slice hR2; have HN2 := Aside0.mk (Kd.R_N hR2); have HB2 := Aside0.mk hb2; clear hR2 hb2 hg2 hat2)
    | (at_builtin; refine Kd.N_append kVal (w0 := w1) (W := w2) w1.heap.size rfl (.tmp 22) (.tmp 24) 34 36 (.agg #[.int .i64 0, .int .i64 0, .string ⟨#[]⟩]) 32 rfl Try.underlying34 infoVal rfl (by decide) (by decide) (.slice A2 ys.length c2) ys ⟨2, 1, ⟨#[]⟩⟩ [.int .i64 2, .int .i64 1, .string ⟨#[]⟩] (fun _ => True) (fun _ => False) rfl rfl (fk_Val_mk _ _ ⟨2, 1, ⟨#[]⟩⟩) (fun k hk => hk.elim) (fun _ _ => trivial) HN2.out HB2.out HB2.out.size (by omega) ?_; intro v3 w3 hN3 hb3 hg3 hat3; obtain ⟨zs, hzs⟩ : ∃ zs, ys ++ [(⟨2, 1, ⟨#[]⟩⟩ : Val)] = zs := ⟨_, rfl⟩; have hzl : 1 ≤ zs.length ∧ zs.length ≤ 6 := (by rw [← hzs]; simp; omega); rw [hzs] at hN3; clear hzs hat3; obtain ⟨g2, d2, rfl, hg2b, hg2l, hv2⟩ := RowV.of hN3 hzl.1; obtain ⟨m, hm⟩ : ∃ m, zs.length = m := ⟨_, rfl⟩; have HM := Aside0.mk hm; rw [hm] at hzl ⊢; clear hm; have HV2 := Aside0.mk hv2; have HB3 := Aside0.mk hb3; clear hN3 hb3 hg3 hv2)
    | (at_builtin; refine Kd.N_append_rows kVal (w0 := w3) (W := w3) w3.heap.size rfl (.tmp 26) (.tmp 27) 34 36 (.agg #[.int .i64 0, .int .i64 0, .string ⟨#[]⟩]) 32 rfl Try.underlying34 infoVal rfl (by decide) (by decide) (.slice none 0 0) [] zs (some ⟨g2, 0, none⟩) m d2 (fun _ => True) (fun _ => True) rfl rfl (Kd.N_nil _ _ _ _ _) (HM.out ▸ Kd.F_mono (Kd.N_F HV2.out) (fun _ _ => trivial)) (fun k hk => ⟨trivial, by simp [Value.ownBlock]⟩) (fun _ _ => trivial) (Below.refl _ _) (Nat.le_refl _) (by simp; omega) ?_; intro v4 w4 hN4 hb4 hg4 hat4; rw [List.nil_append] at hN4; obtain ⟨g3, d3, rfl, hg3b, hg3l, hv3⟩ := RowV.of hN4 (by rw [HM.out]; omega); rw [HM.out]; have HV3 := Aside0.mk hv3; have HV24 := Aside0.mk (HV2.out.step (hb4.block g2 (by omega))); have HB4 := Aside0.mk hb4; have HBuf4 := Aside0.mk ((BufO.below HBlk1.out (below_more HB3.out hb4)).mono (O' := fun k => w4.heap.size ≤ k) (fun k h _ => h.elim)); have hs34 := hb4.size; clear hN4 hb4 hg4 hat4 hv3)
    | (go_at_call 22; (with_reducible refine (put_first w.heap.size 5 0 w4 HBuf4.out).mono ?_); rintro e w5 ⟨A5, c5, rfl, hb5, hf5⟩; have HB5 := Aside0.mk hb5; have HV25 := Aside0.mk (HV24.out.step (hf5.block g2 (by omega) (by omega) (by have := HS1.out; omega))); have HV35 := Aside0.mk (HV3.out.step (hf5.block g3 (by omega) (by omega) (by have := HS1.out; have := HB3.out.size; omega))); have HF5 := Aside0.mk hf5; have hs45 := hf5.size; clear hb5 hf5)
    | (go_at_call 22; (with_reducible refine (put_ins w.heap.size w5 (some ⟨g2, 0, none⟩) m d2 zs HM.out.symm (HV25.out.C.1) (HV25.out.C.2) (by rw [HM.out]; omega) HB5.out (fun k hk => Nat.le_trans hs45 hk)).mono ?_); rintro e w6 ⟨A6, c6, rfl, hb6, hf6⟩; have HB6 := Aside0.mk hb6; have HV26 := Aside0.mk (HV25.out.step (hf6.block g2 (by omega) (by omega) (by have := HS1.out; omega))); have HV36 := Aside0.mk (HV35.out.step (hf6.block g3 (by omega) (by omega) (by have := HS1.out; have := HB3.out.size; omega))); have HF6 := Aside0.mk (HF5.out.trans (FrameO.mono_size hf6 hs45)); have hs56 := hf6.size; clear hb6 hf6))
  have hs13 : w1.heap.size ≤ w3.heap.size := HB3.out.size
  have hs1 : w1.heap.size = w.heap.size + 1 := HS1.out
  have HBel6 := Aside0.mk (show Below w.heap.size w w6 from (HW1.out.trans ((below_more HB3.out HB4.out).mono (by omega))).trans (HF6.out.belowg (fun k hk => by have h1 : w4.heap.size ≤ k := hk; omega) (Nat.le_refl _) (by omega)))
  have HS := Aside0.mk hs1
  have hg3n : g3 < w4.heap.size := hg3l
  have HNG3 := Aside0.mk (show ¬ w4.heap.size ≤ g3 ∧ g3 ≠ w.heap.size from ⟨by omega, by omega⟩)
  clear hs1
  go_loopw [6] (fun i wr => ∃ k : Nat, k ≤ m ∧ i = .int .i64 k ∧ ∃ us : List Val, us.length = m ∧ BufO (fun k => w4.heap.size ≤ k) wr w.heap.size 5 0 [insEv zs] ∧ RowV wr g2 d2 us ∧ RowV wr g3 d3 zs ∧ Below w.heap.size w wr ∧ w4.heap.size ≤ wr.heap.size) (fun i _ => m - (intOf i).toNat)
  case atStart => exact ⟨0, by omega, rfl, zs, HM.out, HB6.out, HV26.out, HV36.out, HBel6.out, by omega⟩
  case round =>
    obtain ⟨k, hk, rfl, us, hus, hbr, hv2, hv3, hbel, hsr⟩ := hrel
    have HBR := Aside0.mk hbr
    have HV2r := Aside0.mk hv2
    have HV3r := Aside0.mk hv3
    have HBelr := Aside0.mk hbel
    have HUS := Aside0.mk hus
    clear hbr hv3 hbel
    by_cases hkm : k < m
    · obtain ⟨q1, q2, q3⟩ := hv2.at k (by omega)
      have HQ3 := Aside0.mk q3
      clear q3 hv2 hus
      generalize (rdVal us k).num = nk at *
      go_wp2
      have h23 : g3 ≠ g2 := by omega
      have hg2 : w.heap.size < g2 := by have := HS.out; omega
      have hg24 : ¬ w4.heap.size ≤ g2 := by omega
      go_roundw
      case rel => exact ⟨k + 1, by omega, by go_num, us.set k { rdVal us k with num := wrap64 (nk + 1) }, by rw [List.length_set]; exact HUS.out, HBR.out.kept (fun j hj _ => heap_setCell_other _ _ _ _ (by simp only; rcases hj with hj | hj; exact fun he => hg24 (he ▸ hj); omega)), HQ3.out _, HV3r.out.step (heap_setCell_other _ _ _ _ (by simpa using h23)), HBelr.out.setCell (by simp only; omega) _, by simpa [World.setCell] using hsr⟩
      case measure => simp [intOf]; omega
    · obtain rfl : k = m := by omega
      clear hv2 hus
      have PC := Aside0.mk (put_com w.heap.size wr zs HBR.out (fun j hj => Nat.le_trans hsr hj))
      have hg34 : g3 < wr.heap.size := HV3r.out.lt
      have hrs : w.heap.size ≤ wr.heap.size := HBelr.out.size
      have hw4 : w.heap.size ≤ w4.heap.size := by have := HS.out; omega
      go_wp2_with (first
        | (go_at_call 22; (with_reducible refine PC.out.mono ?_); rintro e w7 ⟨B7, d7, rfl, hC7, hf7⟩; have HC7 := Aside0.mk hC7; have HV37 := Aside0.mk (HV3r.out.step (hf7.block g3 hg34 HNG3.out.1 HNG3.out.2)); have HBel7 := Aside0.mk (HBelr.out.trans (hf7.belowg (fun j hj => by have h1 : w4.heap.size ≤ j := hj; omega) (Nat.le_refl _) (by omega))); clear hC7 hf7)
        | (go_at_call 23; (with_reducible refine (same07_one B7 (some ⟨w7.heap.size, 0, none⟩) d7 1 (insEv zs) _ (Kd.C_below HC7.out (below_alloc (Below.refl _ _) _)) (c_one (heap_alloc_new _ _) (ins_K HM.out HV37.out.C.1 (Kd.C_below HV37.out.C.2 (below_alloc (Below.refl _ _) _))))).mono ?_); rintro e w8 ⟨rfl, hb8⟩; have HBel8 := Aside0.mk ((HBel7.out.trans ((below_alloc (Below.refl _ _) _).mono HBel7.out.size)).trans (hb8.mono (by have := HBel7.out.size; simp; omega))); clear hb8)
        | (go_at_call 24; (with_reducible refine (tx_lives _).mono ?_); rintro e w9 ⟨rfl, hb9⟩))
      go_ret
      exact ⟨rfl, HBel8.out.trans (hb9.mono HBel8.out.size)⟩
theorem owns_law (w : World) (A : Option Addr) (c : Nat) (l : List Val) (hC : kVal.C w A l.length l) (hc : l.length ≤ c) (ho : rowOk l) :
    Calls Try.prog 6 #[.slice A l.length c] w fun e w' => e = .returned (.bool true) ∧ Below w.heap.size w w' := owns_any w A c l hC hc ho
end Go.Proofs.Ytjkgafijifkfcaa
