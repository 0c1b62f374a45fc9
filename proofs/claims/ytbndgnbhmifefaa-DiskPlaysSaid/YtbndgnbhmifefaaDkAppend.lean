/- Append. Conditions: the disk stands where the pointer points; the bytes read so; numbers fit. -/
import Derived.Test.YtbndgnbhmifefaaDkDeed
namespace Go.Proofs.Ytbndgnbhmifefaa
open Go.RowKit Go.Proofs.YtbndgnbhmifefaaW.PrintWords
set_option linter.unusedVariables false
set_option linter.unusedSimpArgs false
theorem app_file {O : Nat → Prop} {w w4 : World} {g M base : Nat} {room armed : Int} {down : Bool} {E : List DEnt} (h : DRep O w g M room armed down E) {e : DEnt} (he : e ∈ E) (hb4 : Below w.heap.size w w4) {A4 : Option Addr} {n c4 : Nat} {l : List Int} (hR : kByt.R 5 w4 base (fun _ => True) (.slice A4 n c4) l) (hbase : w.heap.size ≤ base) (hB : ∀ k, w.heap.size ≤ k → O k) :
    DRep O (w4.setCell ⟨e.blk, 0, none⟩ (.slice A4 n c4)) g M room armed down (updE E e.blk ⟨l, e.file.kept⟩) ∧ DFrame O w (w4.setCell ⟨e.blk, 0, none⟩ (.slice A4 n c4)) := by
  have hD4 := h.below hb4
  obtain ⟨A, c, hb, hc, hF⟩ := hD4.files e he
  have hlt := (h.files e he).lt
  have hg := h.glt
  have hM := h.mlt
  have hN := Kd.R_N (Kd.R_mono (Kd.R_bound hR) (ok' := Free O g M E) (fun k hk => by
    obtain ⟨_, h1, _, _⟩ := hk
    exact ⟨hB k (by omega), by omega, by omega, fun e' he' => by have := (h.files e' he').lt; omega⟩))
  obtain ⟨hn, hnc, _⟩ := Kd.N_reads' hN
  subst hn
  refine ⟨hD4.file he _ ⟨A4, c4, heap_setCell_same w4 e.blk 0 _ _ _ hb, hnc, Kd.F_step (Kd.N_F hN) (fun k hk _ => heap_setCell_other _ _ _ _ (by simp only; exact hk.2.2.2 e he))⟩ (fun k _ hk => heap_setCell_other _ _ _ _ (by simpa using hk)), (DFrame.of hb4).set _ _ (h.own.2.2 e he)⟩
theorem app_err (O : Nat → Prop) (g M : Nat) (room armed : Int) (down : Bool) (E : List DEnt) (s : ByteArray) (B : Option Addr) (n cb : Nat) (w : World) (h : DRep O w g M room armed down E) (hn : NamedOk s) (hs : s.size ≤ 9223372036854775807) (m : Int) (hm : mayR down true E [s] = m) (hm0 : m ≠ 0) :
    Calls Try.prog 12 #[.pointer (some ⟨g, 0, none⟩), .string s, .slice B n cb] w fun x w' => x = .returned (.int .i64 m) ∧ Below w.heap.size w w' := by
  have HD := Aside0.mk h
  have HM := Aside0.mk (fun b c W hD hC => may_one O g M room armed down true E b c s W hD hC hn hs)
  rw [hm] at HM
  have e1 : (m == 0) = false := beq_eq_false_iff_ne.2 hm0
  have e2 : (m != 0) = true := bne_iff_ne.2 hm0
  clear h hn hm hs hm0
  go_enter Try.func12, Try.ntmps12
  go_wp2_with (go_at_call 27; (with_reducible refine (HM.out _ _ _ (HD.out.below (below_alloc (Below.refl _ _) _)) (heap_alloc_new _ _)).mono ?_); rintro e w2 ⟨rfl, hb2⟩)
  go_ret
  exact ⟨rfl, ((below_alloc (Below.refl _ _) _)).trans (hb2.mono (by simp))⟩
theorem app_full (O : Nat → Prop) (g M : Nat) (room armed : Int) (down : Bool) (E : List DEnt) (s : ByteArray) (B : Option Addr) (n cb : Nat) (w : World) (h : DRep O w g M room armed down E) (hn : NamedOk s) (hs : s.size ≤ 9223372036854775807) (hm : mayR down true E [s] = 0) (hr : 0 ≤ room) (hr' : room ≤ 9223372036854775807) (ht : totalE E ≤ 1000000) (hnn : n ≤ 9223372036854775807) (hfull : room - totalE E < (n : Int)) :
    Calls Try.prog 12 #[.pointer (some ⟨g, 0, none⟩), .string s, .slice B n cb] w fun x w' => x = .returned (.int .i64 11) ∧ Below w.heap.size w w' := by
  have HD := Aside0.mk h
  have HM := Aside0.mk (fun b c W hD hC => may_one O g M room armed down true E b c s W hD hC hn hs)
  rw [hm] at HM
  have HF := Aside0.mk (fun W hD => free_calls O g M room armed down E W hD hr hr' ht)
  clear h hn hm hs
  generalize room - (totalE E : Int) = fr at *
  go_enter Try.func12, Try.ntmps12
  go_wp2_with (first
    | (go_at_call 27; (with_reducible refine (HM.out _ _ _ (HD.out.below (below_alloc (Below.refl _ _) _)) (heap_alloc_new _ _)).mono ?_); rintro e w2 ⟨rfl, hb2⟩; have HB2 := Aside0.mk (((below_alloc (Below.refl w.heap.size w) _)).trans (hb2.mono (by simp))); clear hb2)
    | (go_at_call 14; (with_reducible refine (HF.out _ (HD.out.below HB2.out)).mono ?_); rintro e w3 ⟨rfl, hb3⟩))
  go_ret
  exact ⟨rfl, below_more HB2.out hb3⟩
set_option maxRecDepth 100000 in
set_option maxHeartbeats 4000000 in
theorem app_ok (O : Nat → Prop) (g M : Nat) (room armed : Int) (down : Bool) (E : List DEnt) (e : DEnt) (he : e ∈ E) (B : Option Addr) (cb : Nat) (bs : List Int) (w : World) (h : DRep O w g M room armed down E) (hn : NamedOk e.name) (hs : e.name.size ≤ 9223372036854775807) (hm : mayR down true E [e.name] = 0) (hr : 0 ≤ room) (hr' : room ≤ 9223372036854775807) (ht : totalE E ≤ 1000000) (hl : e.file.bytes.length + bs.length ≤ 100000000) (hC : Kd.C kByt w B bs.length bs) (hcb : bs.length ≤ cb) (hB : ∀ k, w.heap.size ≤ k → O k) (ha : armed ≤ 9223372036854775807) (hroom : (bs.length : Int) ≤ room - totalE E) :
    Calls Try.prog 12 #[.pointer (some ⟨g, 0, none⟩), .string e.name, .slice B bs.length cb] w (DoTell O w g M room armed down (updE E e.blk ⟨e.file.bytes ++ bs, e.file.kept⟩) (fun E' => E' = updE E e.blk ⟨e.file.bytes ++ bs, e.file.kept⟩)) := by
  have HD := Aside0.mk h
  have HM := Aside0.mk (fun b c W hD hC => may_one O g M room armed down true E b c e.name W hD hC hn hs)
  rw [hm] at HM
  have HF := Aside0.mk (fun W hD => free_calls O g M room armed down E W hD hr hr' ht)
  have HL := Aside0.mk (fun W (hb : Below w.heap.size w W) => (h.below hb).lookP (W' := W) he hs rfl)
  unfold ptrV at HL
  obtain ⟨A, c, hb, hc, hFt⟩ := h.files e he
  have HFile := Aside0.mk hb
  have HCA := Aside0.mk hFt
  have HCB := Aside0.mk hC
  have HB := Aside0.mk hB
  have HE := Aside0.mk he
  clear h hn hm hs hb hFt hC hB
  generalize hfr : room - (totalE E : Int) = fr at *
  clear hfr
  generalize e.name = nm at *
  go_enter Try.func12, Try.ntmps12
  go_wp2_with (first
    | (go_at_call 27; (with_reducible refine (HM.out _ _ _ (HD.out.below (below_alloc (Below.refl _ _) _)) (heap_alloc_new _ _)).mono ?_); rintro x w2 ⟨rfl, hb2⟩; have HB2 := Aside0.mk (((below_alloc (Below.refl w.heap.size w) _)).trans (hb2.mono (by simp))); clear hb2)
    | (go_at_call 14; (with_reducible refine (HF.out _ (HD.out.below HB2.out)).mono ?_); rintro x w3 ⟨rfl, hb3⟩; have HB3 := Aside0.mk (below_more HB2.out hb3); have k1 := (HD.out.below HB3.out).c1; have hl3 := HL.out _ HB3.out; have f0 : w3.cell? ⟨e.blk, 0, none⟩ = some (.slice A e.file.bytes.length c) := pw_cell_below HB3.out (cell_of_row w _ 0 _ _ _ HFile.out); clear hb3)
    | (go_at_call 29; (with_reducible refine (concat_two A B c cb e.file.bytes bs w3 (Kd.F_now (Kd.F_below HCA.out HB3.out)) hc (Kd.C_below HCB.out HB3.out) hcb (by omega)).mono ?_); rintro x w4 ⟨v4, rfl, hR4, hb4⟩; obtain ⟨A4, c4, rfl⟩ := Kd.R_slice hR4; rw [List.length_append] at hR4 ⊢; have hb4' := (below_more HB3.out ((below_alloc (Below.refl w3.heap.size w3) _).trans (hb4.mono (by simp)))); have HA := Aside0.mk (app_file HD.out HE.out hb4' hR4 (by have := HB3.out.size; simp; omega) HB.out); have f4 : w4.cell? ⟨e.blk, 0, none⟩ = some (.slice A e.file.bytes.length c) := pw_cell_below hb4' (cell_of_row w _ 0 _ _ _ HFile.out); have z4 : w4.frozen? ⟨e.blk, 0, none⟩ = false := frozen_of_row w4 _ 0 _ _ ((hb4'.block _ (Array.getElem?_eq_some_iff.1 HFile.out).1).trans HFile.out); clear hR4 hb4 hb4')
    | (go_at_call 26; (with_reducible refine (do_app O g M room armed down _ _ HA.out.1 ha).mono ?_); rintro x w6 ⟨rfl, h1, h2, h3⟩; have H1 := Aside0.mk h1; have H2 := Aside0.mk h2; have H3 := Aside0.mk h3; clear h1 h2 h3))
  go_ret
  exact ⟨rfl, H1.out, H2.out, HA.out.2.trans H3.out⟩
end Go.Proofs.Ytbndgnbhmifefaa
