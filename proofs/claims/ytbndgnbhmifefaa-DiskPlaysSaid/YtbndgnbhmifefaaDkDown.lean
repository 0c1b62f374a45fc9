/- The law DiskDown comes to true for every input. Conditions: the asks read so. -/
import Derived.Test.YtbndgnbhmifefaaDkKeeps
import Derived.Test.YtbndgnbhmifefaaDkAll
import Derived.Test.YtbndgnbhmifefaaDkKinds
namespace Go.Proofs.Ytbndgnbhmifefaa
open Go.RowKit Go.Proofs.YtbndgnbhmifefaaW.PrintWords Go.Proofs.YtbndgnbhmifefaaW.PrintMore
set_option linter.unusedVariables false
set_option linter.unusedSimpArgs false
def fits64 (n : Int) : Prop := (Lit.int .i64 n).wf = true
theorem rd_int : Reads Try.prog 3 (Kd.int .i64) fits64 := Reads.int Try.underlying3 (by kernel_rfl)
theorem rd_str : Reads Try.prog 9 Kd.string (fun s => s.size ≤ reachBytes) := Reads.string Try.underlying9 (by kernel_rfl)
def intsOk (l : List Int) : Prop := (∀ a ∈ l, fits64 a) ∧ l.length * 8 ≤ reachBytes
theorem rd_ints : Reads Try.prog 37 (Kd.slice 3 kI64) intsOk := Reads.slice Try.underlying37 (by kernel_rfl) (by kernel_rfl) rd_int
def askOk (x : Ask) : Prop := fits64 x.kind ∧ x.name.size ≤ reachBytes ∧ x.dest.size ≤ reachBytes ∧ bytesOk x.bytes ∧ fits64 x.n ∧ intsOk x.keep
theorem rd_Ask : Reads Try.prog 47 kAsk askOk :=
  Reads.iso (Reads.struct Try.underlying47 (by kernel_rfl) (ReadsAt.cons (i := 0) rfl rd_int rfl (ReadsAt.cons (i := 1) rfl rd_str rfl (ReadsAt.cons (i := 2) rfl rd_str rfl (ReadsAt.cons (i := 3) rfl rd_bytes rfl (ReadsAt.cons (i := 4) rfl rd_int rfl (ReadsAt.last (i := 5) rfl rd_ints))))))) (fun x : Ask => (x.kind, x.name, x.dest, x.bytes, x.n, x.keep)) (fun p => ⟨p.1, p.2.1, p.2.2.1, p.2.2.2.1, p.2.2.2.2.1, p.2.2.2.2.2⟩) (fun _ => rfl)
def asksOk (l : List Ask) : Prop := (∀ a ∈ l, askOk a) ∧ l.length * 96 ≤ reachBytes
theorem rd_asks : Reads Try.prog 42 (Kd.slice 47 kAsk) asksOk := Reads.slice Try.underlying42 (by kernel_rfl) (by kernel_rfl) rd_Ask
theorem rdAsk_ok {l : List Ask} (h : asksOk l) {i : Nat} (hi : i < l.length) : askOk (rdAsk l i) := by
  unfold rdAsk
  rw [List.getD_eq_getElem?_getD, List.getElem?_eq_getElem hi]
  exact h.1 _ (List.getElem_mem hi)
/-- the disk of the law: the power is gone -/
def DAt (w wr : World) : Prop := One (fun k => w.heap.size ≤ k) w wr (w.heap.size + 1) w.heap.size 300 (-1) true ⟨#[97]⟩ [97, 98, 99] 0
theorem DAt.one {w wr : World} (h : DAt w wr) : One (fun k => w.heap.size ≤ k) w wr (w.heap.size + 1) w.heap.size 300 (-1) true ⟨#[97]⟩ [97, 98, 99] 0 := h
theorem DAt.bel {w wr : World} (h : DAt w wr) : Below w.heap.size w wr := h.frame.below (fun _ h => h) (Nat.le_refl _)
theorem DAt.move {w wr w' : World} (h : DAt w wr) (hb : Below wr.heap.size wr w') : DAt w w' := One.below h hb
section
variable {w : World}
theorem create_g {s : ByteArray} (hs : s.size ≤ 9223372036854775807) (wr : World) (h : DAt w wr) :
    Calls Try.prog 11 #[.pointer (some ⟨w.heap.size + 1, 0, none⟩), .string s] wr fun x w' => x = .returned (.int .i64 12) ∧ DAt w w' := by
  obtain ⟨e, hn, hf, hr⟩ := h.rep
  refine (create_err _ _ _ _ _ true [e] s wr hr (named_all s hs) hs 12 (may_gone _ _ _) (by decide)).mono ?_
  rintro x w' ⟨rfl, hb⟩
  exact ⟨rfl, h.move hb⟩
theorem sync_g {s : ByteArray} (hs : s.size ≤ 9223372036854775807) (wr : World) (h : DAt w wr) :
    Calls Try.prog 16 #[.pointer (some ⟨w.heap.size + 1, 0, none⟩), .string s] wr fun x w' => x = .returned (.int .i64 12) ∧ DAt w w' := by
  obtain ⟨e, hn, hf, hr⟩ := h.rep
  refine (sync_err _ _ _ _ _ true [e] s wr hr (named_all s hs) hs 12 (may_gone _ _ _) (by decide)).mono ?_
  rintro x w' ⟨rfl, hb⟩
  exact ⟨rfl, h.move hb⟩
theorem remove_g {s : ByteArray} (hs : s.size ≤ 9223372036854775807) (wr : World) (h : DAt w wr) :
    Calls Try.prog 24 #[.pointer (some ⟨w.heap.size + 1, 0, none⟩), .string s] wr fun x w' => x = .returned (.int .i64 12) ∧ DAt w w' := by
  obtain ⟨e, hn, hf, hr⟩ := h.rep
  refine (remove_err _ _ _ _ _ true [e] s wr hr (named_all s hs) hs 12 (may_gone _ _ _) (by decide)).mono ?_
  rintro x w' ⟨rfl, hb⟩
  exact ⟨rfl, h.move hb⟩
theorem rename_g {s t : ByteArray} (hs : s.size ≤ 9223372036854775807) (ht : t.size ≤ 9223372036854775807) (wr : World) (h : DAt w wr) :
    Calls Try.prog 20 #[.pointer (some ⟨w.heap.size + 1, 0, none⟩), .string s, .string t] wr fun x w' => x = .returned (.int .i64 12) ∧ DAt w w' := by
  obtain ⟨e, hn, hf, hr⟩ := h.rep
  refine (rename_err _ _ _ _ _ true [e] s t wr hr (named_all s hs) hs (named_all t ht) ht 12 (may_gone _ _ _) (by decide)).mono ?_
  rintro x w' ⟨rfl, hb⟩
  exact ⟨rfl, h.move hb⟩
theorem app_g {s : ByteArray} (hs : s.size ≤ 9223372036854775807) (B : Option Addr) (n cb : Nat) (wr : World) (h : DAt w wr) :
    Calls Try.prog 12 #[.pointer (some ⟨w.heap.size + 1, 0, none⟩), .string s, .slice B n cb] wr fun x w' => x = .returned (.int .i64 12) ∧ DAt w w' ∧ Below wr.heap.size wr w' := by
  obtain ⟨e, hn, hf, hr⟩ := h.rep
  refine (app_err _ _ _ _ _ true [e] s B n cb wr hr (named_all s hs) hs 12 (may_gone _ _ _) (by decide)).mono ?_
  rintro x w' ⟨rfl, hb⟩
  exact ⟨rfl, h.move hb, hb⟩
theorem list_o {w0 wr : World} {O : Nat → Prop} {g M : Nat} {room armed : Int} {s : ByteArray} {bs : List Int} {kept : Nat} (h : One O w0 wr g M room armed false s bs kept) :
    Calls Try.prog 25 #[.pointer (some ⟨g, 0, none⟩)] wr fun x w' => ∃ nb cap, x = .returned (.slice (some ⟨nb, 0, none⟩) 1 cap) ∧ One O w0 w' g M room armed false s bs kept := by
  obtain ⟨e, hn, hf, hr⟩ := h.rep
  refine (list_one O g M room armed e wr hr).mono ?_
  rintro x w' ⟨nb, cap, h1, h2, rfl, h4, h5⟩
  exact ⟨nb, cap, rfl, h.below h5⟩
end
theorem C_lit3 (w : World) (a b c : Int) : Kd.C kByt (w.alloc (.cells #[.int .u8 a, .int .u8 b, .int .u8 c] 5 (3, 4))) (some ⟨w.heap.size, 0, none⟩) [a, b, c].length [a, b, c] :=
  C_row (l := [a, b, c]) (heap_alloc_new _ _) (by simp)
set_option maxRecDepth 100000 in
set_option maxHeartbeats 8000000 in
theorem down_any (w : World) (A : Option Addr) (c : Nat) (S : List Ask) (hC : Kd.C kAsk w A S.length S) (hc : S.length ≤ c) (hS : asksOk S) :
    Calls Try.prog 8 #[.slice A S.length c] w fun x w' => x = .returned (.bool true) ∧ Below w.heap.size w w' := by
  have hSl : S.length ≤ 9223372036854775807 := hC.2.1
  have HC := Aside0.mk hC
  have HS := Aside0.mk hS
  clear hC hS
  have hcv := conv_const
  go_enter Try.func8, Try.ntmps8
  go_upto_block 0 with (first
    | (go_at_call 9; (with_reducible refine (new_calls 300 w).mono ?_); rintro x w1 ⟨rfl, h1, hb1⟩; have H1 := Aside0.mk (show DRep (fun k => w.heap.size ≤ k) w1 (w.heap.size + 1) w.heap.size 300 (-1) false [] from h1); have HB1 := Aside0.mk hb1; clear h1 hb1)
    | (go_at_call 11; (with_reducible refine (create_first good_a w1 H1.out (fun k hk => Nat.le_trans HB1.out.size hk) (DFrame.of HB1.out) (by decide)).mono ?_); rintro x w2 ⟨rfl, h2⟩; have H2 := Aside0.mk h2; clear h2)
    | (go_at_call 12; (with_reducible refine (app_one good_a _ 3 3 [97, 98, 99] _ (H2.out.below (below_alloc (Below.refl _ _) _)) rfl (C_lit3 w2 97 98 99) (by decide) (by decide) (by decide) (by decide)).mono ?_); rintro x w3 ⟨rfl, h3⟩; have H3 := Aside0.mk (show One (fun k => w.heap.size ≤ k) w w3 (w.heap.size + 1) w.heap.size 300 (-1) false ⟨#[97]⟩ [97, 98, 99] 0 from h3); clear h3)
    | (go_at_call 17; (with_reducible refine (arm_one 0 _ _ H3.out).mono ?_); rintro x w4 ⟨rfl, h4⟩; have H4 := Aside0.mk (show One (fun k => w.heap.size ≤ k) w w4 (w.heap.size + 1) w.heap.size 300 0 false ⟨#[97]⟩ [97, 98, 99] 0 from h4); clear h4)
    | (go_at_call 16; (with_reducible refine (sync_one good_a _ H4.out (by decide)).mono ?_); rintro x w5 ⟨rfl, h5⟩; have H5 := Aside0.mk (show DAt w w5 from h5); clear h5))
  clear hcv
  go_cut [] (fun w' => DAt w w')
  case first =>
    go_wp2
    go_loopw [4] (fun i wr => ∃ j : Nat, j ≤ 20 ∧ i = .int .i64 j ∧ DAt w wr) (fun i _ => 20 - (intOf i).toNat)
    case atStart => exact ⟨0, by omega, rfl, H5.out⟩
    case round =>
      obtain ⟨j, hj, rfl, hat⟩ := hrel
      have HA := Aside0.mk hat
      have hbel := hat.bel
      clear hat
      by_cases hlt : j < S.length
      · by_cases hl6 : j < 20
        · have hl6' : (j : Int) < 20 := by omega
          obtain ⟨ad, A3, c3, A5, c5, eA, r0, r1, r2, r3, r4, r5, l3, g3, l5, g5⟩ := at_Ask HC.out j hlt
          obtain ⟨_, o1, o2, _⟩ := rdAsk_ok HS.out hlt
          unfold reachBytes at o1 o2
          cases eA
          replace r0 := pw_cell_below hbel r0
          replace r1 := pw_cell_below hbel r1
          replace r2 := pw_cell_below hbel r2
          replace r3 := pw_cell_below hbel r3
          replace r4 := pw_cell_below hbel r4
          replace r5 := pw_cell_below hbel r5
          have HF := Aside0.mk (fun W => few_calls A3 c3 (rdAsk S j).bytes W l3)
          have o1' : (rdAsk S j).name.size ≤ 9223372036854775807 := by omega
          have o2' : (rdAsk S j).dest.size ≤ 9223372036854775807 := by omega
          have HO1 := Aside0.mk o1'
          have HO2 := Aside0.mk o2'
          clear g3 g5 o1 o2 o1' o2' l3 l5 hbel
          generalize (rdAsk S j).kind = kind at *
          generalize (rdAsk S j).name = nm at *
          generalize (rdAsk S j).dest = dst at *
          generalize ((rdAsk S j).bytes.take 30).length = bl at *
          generalize (rdAsk S j).bytes.length = bl0 at *
          generalize (rdAsk S j).n = an at *
          generalize (rdAsk S j).keep.length = kl at *
          go_upto_block 2 with fail
          go_cut [6] (fun e w' => e = .int .i64 12 ∧ DAt w w')
          case first =>
            by_cases k0 : kind = 0
            · subst k0
              go_wp2_with (first
              | (go_at_call 10; (with_reducible refine (HF.out _).mono ?_); rintro x w' ⟨rfl, hw'⟩; have hw2 := hw'.symm; clear hw'; subst hw2)
              | (go_at_call 11; (with_reducible refine (create_g HO1.out _ (HA.out.move (below_alloc (Below.refl _ _) _))).mono ?_); rintro x w6 ⟨rfl, h6⟩; have H6 := Aside0.mk h6; clear h6)
              | (go_at_call 12; (with_reducible refine (app_g HO1.out _ _ _ _ (HA.out.move (below_alloc (Below.refl _ _) _))).mono ?_); rintro x w6 ⟨rfl, h6⟩; have H6 := Aside0.mk h6; clear h6)
              | (go_at_call 16; (with_reducible refine (sync_g HO1.out _ (HA.out.move (below_alloc (Below.refl _ _) _))).mono ?_); rintro x w6 ⟨rfl, h6⟩; have H6 := Aside0.mk h6; clear h6)
              | (go_at_call 20; (with_reducible refine (rename_g HO1.out HO2.out _ (HA.out.move (below_alloc (Below.refl _ _) _))).mono ?_); rintro x w6 ⟨rfl, h6⟩; have H6 := Aside0.mk h6; clear h6)
              | (go_at_call 24; (with_reducible refine (remove_g HO1.out _ (HA.out.move (below_alloc (Below.refl _ _) _))).mono ?_); rintro x w6 ⟨rfl, h6⟩; have H6 := Aside0.mk h6; clear h6))
              go_meet
              exact ⟨rfl, H6.out⟩
            · by_cases k1 : kind = 1
              · subst k1
                go_wp2
                have hbx := heap_alloc_new wr (.cells #[.int .i64 1, .string nm, .string dst, .slice A3 bl0 c3, .int .i64 an, .slice A5 kl c5] 47)
                have HA5 := Aside0.mk (HA.out.move (below_alloc (Below.refl wr.heap.size wr) (.cells #[.int .i64 1, .string nm, .string dst, .slice A3 bl0 c3, .int .i64 an, .slice A5 kl c5] 47)))
                generalize wr.alloc (.cells #[.int .i64 1, .string nm, .string dst, .slice A3 bl0 c3, .int .i64 an, .slice A5 kl c5] 47) = w5 at *
                have q1 : w5.cell? ⟨wr.heap.size, 1, none⟩ = some (.string nm) := cell_of_row w5 _ 1 _ _ _ hbx
                have q3 : w5.cell? ⟨wr.heap.size, 3, none⟩ = some (.slice A3 bl0 c3) := cell_of_row w5 _ 3 _ _ _ hbx
                clear hbx r0 r1 r2 r3 r4 r5
                go_region_held3 (fun W => W.cell? ⟨wr.heap.size, 1, none⟩ = some (.string nm) ∧ W.cell? ⟨wr.heap.size, 3, none⟩ = some (.slice A3 bl0 c3))
                  (first | assumption | exact HS6.out | go_keep)
                  (first
                  | (go_at_call 10; (with_reducible refine (HF.out _).mono ?_); rintro x w' ⟨rfl, hw'⟩; have hw2 := hw'.symm; clear hw'; subst hw2)
                  | (go_at_call 12; (with_reducible refine (app_g HO1.out _ _ _ _ (HA5.out.move ((Below.refl _ _).drew))).mono ?_); rintro x w6 ⟨rfl, h6, hb6⟩; have H6 := Aside0.mk h6; have HS6 := Aside0.mk (And.intro (pw_cell_below (((Below.refl _ _).drew).trans hb6) q1) (pw_cell_below (((Below.refl _ _).drew).trans hb6) q3)); clear h6 hb6))
                go_wp2
                go_meet
                exact ⟨rfl, H6.out⟩
              · by_cases k2 : kind = 2
                · subst k2
                  go_wp2_with (first
              | (go_at_call 10; (with_reducible refine (HF.out _).mono ?_); rintro x w' ⟨rfl, hw'⟩; have hw2 := hw'.symm; clear hw'; subst hw2)
              | (go_at_call 11; (with_reducible refine (create_g HO1.out _ (HA.out.move (below_alloc (Below.refl _ _) _))).mono ?_); rintro x w6 ⟨rfl, h6⟩; have H6 := Aside0.mk h6; clear h6)
              | (go_at_call 12; (with_reducible refine (app_g HO1.out _ _ _ _ (HA.out.move (below_alloc (Below.refl _ _) _))).mono ?_); rintro x w6 ⟨rfl, h6⟩; have H6 := Aside0.mk h6; clear h6)
              | (go_at_call 16; (with_reducible refine (sync_g HO1.out _ (HA.out.move (below_alloc (Below.refl _ _) _))).mono ?_); rintro x w6 ⟨rfl, h6⟩; have H6 := Aside0.mk h6; clear h6)
              | (go_at_call 20; (with_reducible refine (rename_g HO1.out HO2.out _ (HA.out.move (below_alloc (Below.refl _ _) _))).mono ?_); rintro x w6 ⟨rfl, h6⟩; have H6 := Aside0.mk h6; clear h6)
              | (go_at_call 24; (with_reducible refine (remove_g HO1.out _ (HA.out.move (below_alloc (Below.refl _ _) _))).mono ?_); rintro x w6 ⟨rfl, h6⟩; have H6 := Aside0.mk h6; clear h6))
                  go_meet
                  exact ⟨rfl, H6.out⟩
                · by_cases k3 : kind = 3
                  · subst k3
                    go_wp2_with (first
              | (go_at_call 10; (with_reducible refine (HF.out _).mono ?_); rintro x w' ⟨rfl, hw'⟩; have hw2 := hw'.symm; clear hw'; subst hw2)
              | (go_at_call 11; (with_reducible refine (create_g HO1.out _ (HA.out.move (below_alloc (Below.refl _ _) _))).mono ?_); rintro x w6 ⟨rfl, h6⟩; have H6 := Aside0.mk h6; clear h6)
              | (go_at_call 12; (with_reducible refine (app_g HO1.out _ _ _ _ (HA.out.move (below_alloc (Below.refl _ _) _))).mono ?_); rintro x w6 ⟨rfl, h6⟩; have H6 := Aside0.mk h6; clear h6)
              | (go_at_call 16; (with_reducible refine (sync_g HO1.out _ (HA.out.move (below_alloc (Below.refl _ _) _))).mono ?_); rintro x w6 ⟨rfl, h6⟩; have H6 := Aside0.mk h6; clear h6)
              | (go_at_call 20; (with_reducible refine (rename_g HO1.out HO2.out _ (HA.out.move (below_alloc (Below.refl _ _) _))).mono ?_); rintro x w6 ⟨rfl, h6⟩; have H6 := Aside0.mk h6; clear h6)
              | (go_at_call 24; (with_reducible refine (remove_g HO1.out _ (HA.out.move (below_alloc (Below.refl _ _) _))).mono ?_); rintro x w6 ⟨rfl, h6⟩; have H6 := Aside0.mk h6; clear h6))
                    go_meet
                    exact ⟨rfl, H6.out⟩
                  · by_cases k4 : kind = 4
                    · subst k4
                      go_wp2_with (first
              | (go_at_call 10; (with_reducible refine (HF.out _).mono ?_); rintro x w' ⟨rfl, hw'⟩; have hw2 := hw'.symm; clear hw'; subst hw2)
              | (go_at_call 11; (with_reducible refine (create_g HO1.out _ (HA.out.move (below_alloc (Below.refl _ _) _))).mono ?_); rintro x w6 ⟨rfl, h6⟩; have H6 := Aside0.mk h6; clear h6)
              | (go_at_call 12; (with_reducible refine (app_g HO1.out _ _ _ _ (HA.out.move (below_alloc (Below.refl _ _) _))).mono ?_); rintro x w6 ⟨rfl, h6⟩; have H6 := Aside0.mk h6; clear h6)
              | (go_at_call 16; (with_reducible refine (sync_g HO1.out _ (HA.out.move (below_alloc (Below.refl _ _) _))).mono ?_); rintro x w6 ⟨rfl, h6⟩; have H6 := Aside0.mk h6; clear h6)
              | (go_at_call 20; (with_reducible refine (rename_g HO1.out HO2.out _ (HA.out.move (below_alloc (Below.refl _ _) _))).mono ?_); rintro x w6 ⟨rfl, h6⟩; have H6 := Aside0.mk h6; clear h6)
              | (go_at_call 24; (with_reducible refine (remove_g HO1.out _ (HA.out.move (below_alloc (Below.refl _ _) _))).mono ?_); rintro x w6 ⟨rfl, h6⟩; have H6 := Aside0.mk h6; clear h6))
                      go_meet
                      exact ⟨rfl, H6.out⟩
                    · have e0 : (kind == 0) = false := beq_eq_false_iff_ne.2 k0
                      have e1 : (kind == 1) = false := beq_eq_false_iff_ne.2 k1
                      have e2 : (kind == 2) = false := beq_eq_false_iff_ne.2 k2
                      have e3 : (kind == 3) = false := beq_eq_false_iff_ne.2 k3
                      have e4 : (kind == 4) = false := beq_eq_false_iff_ne.2 k4
                      go_wp2
                      go_meet
                      exact ⟨rfl, HA.out.move (below_alloc (Below.refl _ _) _)⟩
          case rest =>
            obtain ⟨rfl, hat⟩ := hcut
            have HB := Aside0.mk hat
            clear hat
            go_wp2_with (first
              | (go_at_call 18; (with_reducible refine (down_one _ _ HB.out.one).mono ?_); rintro x w7 ⟨rfl, hw7⟩; have hw8 := hw7.symm; clear hw7; subst hw8)
              | (go_at_call 14; (with_reducible refine (free_one _ _ HB.out.one (by decide) (by decide) (by decide)).mono ?_); rintro x w8 ⟨rfl, h8⟩; have H8 := Aside0.mk h8; clear h8))
            go_roundw
            case rel => exact ⟨j + 1, by omega, by go_num, H8.out⟩
            case measure => simp [intOf]; omega
        · have hl6' : ¬ (j : Int) < 20 := by omega
          obtain rfl : j = 20 := by omega
          go_wp2
          go_meet
          exact HA.out
      · go_wp2
        go_meet
        exact HA.out
  case rest =>
    have HA := Aside0.mk hcut
    clear hcut
    have hn1 : upN 1 0 3 = 1 := by decide
    have hst : strOfNums [97] = ⟨#[97]⟩ := by rfl
    go_wp2_with (first
      | (go_at_call 19; (with_reducible refine (up_here 1 _ HA.out.one (by decide) (by decide) (by decide) (by decide) (by decide)).mono ?_); rintro x w8 ⟨rfl, h8⟩; have H8 := Aside0.mk (show One (fun k => w.heap.size ≤ k) w w8 (w.heap.size + 1) w.heap.size 300 (-1) false ⟨#[97]⟩ [97] 1 from h8); clear h8)
      | (go_at_call 13; (with_reducible refine (read_one good_a _ H8.out (by decide)).mono ?_); rintro x w9 ⟨h9, v9, b9, hb9, rfl, hR9, hbl9⟩; obtain ⟨A9, c9, rfl⟩ := Kd.R_slice hR9; have hs9 := str_run w9 A9 1 c9 [97] rfl (Kd.F_now (Kd.R_F hR9)); have H9 := Aside0.mk h9; clear h9 hR9 hbl9)
      | (go_at_call 25; (with_reducible refine (list_o H9.out).mono ?_); rintro x w10 ⟨nb, cap, rfl, h10⟩; have H10 := Aside0.mk h10; clear h10)
      | (go_at_call 15; (with_reducible refine (lives_calls _).mono ?_); rintro x w11 ⟨rfl, hb11⟩))
    go_ret
    exact ⟨rfl, below_more (H10.out.frame.below (fun _ h => h) (Nat.le_refl _)) hb11⟩
theorem down_row (w : World) (A : Option Addr) (c : Nat) (S : List Ask) (hC : Kd.C kAsk w A S.length S) (hc : S.length ≤ c) (hS : asksOk S) :
    Calls Try.prog 8 #[.slice A S.length c] w fun x w' => x = .returned (.bool true) ∧ Below w.heap.size w w' := down_any w A c S hC hc hS
end Go.Proofs.Ytbndgnbhmifefaa
