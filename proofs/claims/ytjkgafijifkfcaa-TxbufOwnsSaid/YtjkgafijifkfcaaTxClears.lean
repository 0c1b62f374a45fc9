/- The law TxbufClears comes to true for every limit, number and row of events. Conditions: the events read so. -/
import Derived.Test.YtjkgafijifkfcaaTxRight
import Derived.Test.YtjkgafijifkfcaaEvReads
import Derived.Deep.CutBlock
import Derived.Deep.RegionHeld3
namespace Go.Proofs.Ytjkgafijifkfcaa
open Go.RowKit Go.Proofs.YtjkgafijifkfcaaW.PrintWords
set_option linter.unusedVariables false
set_option linter.unusedSimpArgs false
def EvFit (x : Ev) : Prop := EvOk x ∧ -9223372036854775808 ≤ x.num ∧ x.num ≤ 9223372036854775807
theorem evFit_of {l : List Ev} (h : evsOk l) (k : Nat) (hk : k < l.length) : EvFit (rdEv l k) := by
  have hm : rdEv l k ∈ l := by unfold rdEv; rw [List.getD_eq_getElem?_getD, List.getElem?_eq_getElem hk]; exact List.getElem_mem hk
  obtain ⟨h1, h2, h3, h4, h5, h6⟩ := h.1 _ hm
  have e : reachBytes ≤ 140737488355328 := by decide
  exact ⟨⟨by have := h4.2; omega, by have := h5.2; omega, by have := h6.2.2.1.1.2; omega⟩, h2.bounds.1, h2.bounds.2⟩
theorem EvFit.right {x : Ev} (h : EvFit x) : EvOk (rightE x) := h.1
theorem put_len (lim num : Int) (xs : List Ev) (x : Ev) : (putR lim num xs x).xs.length ≤ xs.length + 1 := by
  unfold putR
  repeat' split
  all_goals simp
theorem put_right (B g : Nat) (lim num : Int) (xs : List Ev) (x : Ev) {A3 A4 A7 : Option Addr} {c3 c4 c7 : Nat} (w : World) (l3 : x.before.length ≤ c3) (g3 : kVal.C w A3 x.before.length x.before) (l4 : x.after.length ≤ c4) (g4 : kVal.C w A4 x.after.length x.after) (l7 : x.change.schema.cols.length ≤ c7) (g7 : kCol.C w A7 x.change.schema.cols.length x.change.schema.cols) (hf : EvFit x) (hb : Buf B w g lim num xs) (hB : B ≤ w.heap.size) (hl : xs.length ≤ 1000000) :
    Calls Try.prog 22 #[.pointer (some ⟨g, 0, none⟩), .agg #[.int .i64 x.kind, .int .i64 (signed x.num), .string x.table, .slice A3 x.before.length c3, .slice A4 x.after.length c4, .int .i64 x.change.kind, .string x.change.table, .slice A7 x.change.schema.cols.length c7, .int .i64 x.change.schema.keys, .string x.change.column.name, .int .i64 x.change.column.kind, .bool x.change.column.none]] w (Told B g w lim (putR lim num xs (rightE x))) :=
  put_calls' B g lim num xs (rightE x) _ w hb hB (kEv_mk w (rightE x) l3 g3 l4 g4 l7 g7) hf.right hl
theorem right_plain (b : Int) (w : World) (hn : -9223372036854775808 ≤ b) (hn' : b ≤ 9223372036854775807) :
    Calls Try.prog 27 #[.agg #[.int .i64 2, .int .i64 b, .string ⟨#[]⟩, .slice none 0 0, .slice none 0 0, .int .i64 0, .string ⟨#[]⟩, .slice none 0 0, .int .i64 0, .string ⟨#[]⟩, .int .i64 0, .bool false]] w fun e w' => e = .returned (.agg #[.int .i64 2, .int .i64 (signed b), .string ⟨#[]⟩, .slice none 0 0, .slice none 0 0, .int .i64 0, .string ⟨#[]⟩, .slice none 0 0, .int .i64 0, .string ⟨#[]⟩, .int .i64 0, .bool false]) ∧ Below w.heap.size w w' :=
  right_calls (plainEv 2 b ⟨#[]⟩ 0 ⟨#[]⟩) none none none 0 0 0 w hn hn'
theorem FrameB.refl (B g : Nat) (w : World) : FrameB B g w w := ⟨rfl, rfl, rfl, Nat.le_refl _, fun _ _ _ => rfl⟩
theorem buf_numq {B g : Nat} {w : World} {lim num : Int} {xs : List Ev} (h : Buf B w g lim num xs) : Calls Try.prog 31 #[.pointer (some ⟨g, 0, none⟩)] w fun e w' => e = .returned (.int .i64 num) ∧ w = w' := by
  obtain ⟨A, c, hk, _⟩ := h
  exact number_calls g lim num _ w hk
theorem buf_open {B g : Nat} {w : World} {lim num : Int} {xs : List Ev} (h : Buf B w g lim num xs) (hn : (num != -1) = true) : Calls Try.prog 30 #[.pointer (some ⟨g, 0, none⟩)] w fun e w' => e = .returned (.bool true) ∧ w = w' := by
  obtain ⟨A, c, hk, _⟩ := h
  exact open_yes g num w hn hk.c1
theorem buf_clear {B g : Nat} {w : World} {lim num : Int} {xs : List Ev} (h : Buf B w g lim num xs) (hB : B ≤ w.heap.size) : Calls Try.prog 28 #[.pointer (some ⟨g, 0, none⟩)] w fun e w' => e = .returned (.tuple #[]) ∧ (∀ O, BufO O w' g lim (-1) []) ∧ FrameB B g w w' := by
  obtain ⟨A, c, hk, hr⟩ := h
  refine (clear_calls g lim num _ w hk ⟨_, _, _, rfl⟩).mono ?_
  rintro e w' ⟨rfl, rfl⟩
  exact ⟨rfl, fun O => ⟨none, 0, (hk.set1 (-1)).set2 _, EvRowO.nil _ _ _⟩, FrameB.ofO (((FrameO.refl _ _ _).set 1 _).set 2 _) hB⟩
theorem put_first (g : Nat) (lim n : Int) (w : World) (hb : BufO (fun k => w.heap.size ≤ k) w g lim (-1) []) :
    Calls Try.prog 22 #[.pointer (some ⟨g, 0, none⟩), .agg #[.int .i64 2, .int .i64 n, .string ⟨#[]⟩, .slice none 0 0, .slice none 0 0, .int .i64 0, .string ⟨#[]⟩, .slice none 0 0, .int .i64 0, .string ⟨#[]⟩, .int .i64 0, .bool false]] w fun e w' => ∃ A c, e = .returned (.tuple #[.slice A 0 c, .bool false, .int .i64 0]) ∧ BufO (fun k => w.heap.size ≤ k) w' g lim n [] ∧ FrameO (fun k => w.heap.size ≤ k) g w w' := by
  refine (put_callsO (fun k => w.heap.size ≤ k) g lim (-1) [] (plainEv 2 n ⟨#[]⟩ 0 ⟨#[]⟩) _ w hb (fun k hk => hk) (kEv_mk w (plainEv 2 n ⟨#[]⟩ 0 ⟨#[]⟩) (A3 := none) (c3 := 0) (A4 := none) (c4 := 0) (A7 := none) (c7 := 0) (by simp [plainEv]) (Kd.C_nil _ _) (by simp [plainEv]) (Kd.C_nil _ _) (by simp [plainEv]) (Kd.C_nil _ _)) ⟨by simp [plainEv], by simp [plainEv], by simp [plainEv]⟩ (by simp)).mono ?_
  rintro e w' ⟨v, rfl, h2, h3, h4⟩
  rw [put_begin_plain] at h2 h3 ⊢
  obtain ⟨A, c, rfl⟩ := Kd.R_slice h2
  exact ⟨A, c, rfl, h3, h4⟩
theorem openO {O : Nat → Prop} {g : Nat} {w : World} {lim num : Int} {xs : List Ev} (h : BufO O w g lim num xs) (hn : (num != -1) = true) : Calls Try.prog 30 #[.pointer (some ⟨g, 0, none⟩)] w fun e w' => e = .returned (.bool true) ∧ w = w' := by
  obtain ⟨A, c, hk, _⟩ := h
  exact open_yes g num w hn hk.c1
theorem numqO {O : Nat → Prop} {g : Nat} {w : World} {lim num : Int} {xs : List Ev} (h : BufO O w g lim num xs) : Calls Try.prog 31 #[.pointer (some ⟨g, 0, none⟩)] w fun e w' => e = .returned (.int .i64 num) ∧ w = w' := by
  obtain ⟨A, c, hk, _⟩ := h
  exact number_calls g lim num _ w hk
theorem c1O {O : Nat → Prop} {g : Nat} {w : World} {lim num : Int} {xs : List Ev} (h : BufO O w g lim num xs) : w.cell? ⟨g, 1, none⟩ = some (.int .i64 num) := by
  obtain ⟨A, c, hk, _⟩ := h
  exact hk.c1
theorem lenO {O : Nat → Prop} {g q : Nat} {w : World} {lim num : Int} {xs : List Ev} (h : BufO O w g lim num xs) (hq : xs.length = q) : Calls Try.prog 25 #[.pointer (some ⟨g, 0, none⟩)] w fun e w' => e = .returned (.int .i64 q) ∧ w = w' := by
  obtain ⟨A, c, hk, _⟩ := h
  rw [← hq]
  exact len_calls g lim num A xs.length c w hk
theorem FrameO.belowg {O : Nat → Prop} {B g : Nat} {w w' : World} (h : FrameO O g w w') (hO : ∀ k, O k → B ≤ k) (hg : B ≤ g) (hB : B ≤ w.heap.size) : Below B w w' :=
  ⟨h.os, h.tape, h.output, h.size, fun k hk => h.block k (by omega) (fun ho => by have := hO k ho; omega) (by omega)⟩
theorem below_step' {W w1 w2 : World} (h : Below W.heap.size W w1) (h2 : Below w1.heap.size w1 w2) : Below W.heap.size W w2 := h.trans (h2.mono h.size)
theorem Buf.below {B g : Nat} {w w' : World} {lim num : Int} {xs : List Ev} (h : Buf B w g lim num xs) (hb : Below w.heap.size w w') : Buf B w' g lim num xs := BufO.below h hb
set_option maxRecDepth 100000 in
set_option maxHeartbeats 4000000 in
theorem clears_any (w : World) (a : Int) (A : Option Addr) (c : Nat) (l : List Ev) (hC : kEv.C w A l.length l) (hc : l.length ≤ c) (ho : evsOk l) (b : Int) (hb : -9223372036854775808 ≤ b) (hb' : b ≤ 9223372036854775807) :
    Calls Try.prog 10 #[.int .i64 a, .slice A l.length c, .int .i64 b] w fun e w' => e = .returned (.bool true) ∧ Below w.heap.size w w' := by
  have hlen : l.length ≤ 9223372036854775807 := hC.2.1
  have HR := Aside0.mk hC
  have HO := Aside0.mk ho
  clear hC ho
  go_enter Try.func10, Try.ntmps10
  go_upto_block 0 with (go_at_call 21; (with_reducible refine (txnew_calls _ _).mono ?_); rintro e w1 ⟨rfl, rfl⟩)
  go_wp2
  generalize max a 1 = lim
  go_loopw [8] (fun i wr => ∃ k : Nat, k ≤ l.length ∧ k ≤ 20 ∧ i = .int .i64 k ∧ (∃ num xs, xs.length ≤ k ∧ Buf w.heap.size wr w.heap.size lim num xs) ∧ FrameB w.heap.size w.heap.size (w.alloc (.cells #[.int .i64 lim, .int .i64 (-1), .slice none 0 0] 73)) wr) (fun i _ => l.length - (intOf i).toNat)
  case atStart => exact ⟨0, by omega, by omega, rfl, ⟨-1, [], by simp, buf_new w lim⟩, FrameB.refl _ _ _⟩
  case round =>
    obtain ⟨k, hk, hk20, rfl, ⟨num, xs, hx, hbr⟩, hfr⟩ := hrel
    have HBR := Aside0.mk hbr
    have HFR := Aside0.mk hfr
    have HX := Aside0.mk hx
    clear hbr hfr hx
    have hbel : Below w.heap.size w wr := (below_alloc (Below.refl _ _) _).trans (HFR.out.below (Nat.le_refl _))
    by_cases hgo : k < l.length ∧ k < 20
    · obtain ⟨hlt, h20⟩ := hgo
      obtain ⟨ad, A3, c3, A4, c4, A7, c7, eA, d0, d1, d2, d3, d4, d5, d6, d7, d8, d9, d10, d11, l3, g3, l4, g4, l7, g7⟩ := at_Ev HR.out k hlt
      cases eA
      replace d0 := pw_cell_below hbel d0
      replace d1 := pw_cell_below hbel d1
      replace d2 := pw_cell_below hbel d2
      replace d3 := pw_cell_below hbel d3
      replace d4 := pw_cell_below hbel d4
      replace d5 := pw_cell_below hbel d5
      replace d6 := pw_cell_below hbel d6
      replace d7 := pw_cell_below hbel d7
      replace d8 := pw_cell_below hbel d8
      replace d9 := pw_cell_below hbel d9
      replace d10 := pw_cell_below hbel d10
      replace d11 := pw_cell_below hbel d11
      have hfit := evFit_of HO.out k hlt
      generalize rdEv l k = x at *
      have P1 := Aside0.mk (right_calls x A3 A4 A7 c3 c4 c7 wr hfit.2.1 hfit.2.2)
      have P2 := Aside0.mk (fun W (h : Below wr.heap.size wr W) => put_right w.heap.size w.heap.size lim num xs x W l3 (Kd.C_below g3 (hbel.trans (h.mono hbel.size))) l4 (Kd.C_below g4 (hbel.trans (h.mono hbel.size))) l7 (Kd.C_below g7 (hbel.trans (h.mono hbel.size))) hfit (HBR.out.below h) (by have := HFR.out.size; have := h.size; simp at *; omega) (by have := HX.out; omega))
      have HBel := Aside0.mk hbel
      clear hfit l3 g3 l4 g4 l7 g7 hbel
      go_wp2_with (first
        | (go_at_call 27; (with_reducible refine P1.out.mono ?_); rintro e w2 ⟨rfl, hb2⟩; have HB2 := Aside0.mk hb2; clear hb2)
        | (go_at_call 22; (with_reducible refine (P2.out _ HB2.out).mono ?_); rintro e w3 ht; obtain ⟨A5, c5, rfl, hC5, hb5, hf5⟩ := told_row ht; have HB5 := Aside0.mk hb5; have HF5 := Aside0.mk hf5; clear hb5 hf5 ht hC5))
      go_roundw
      case rel => exact ⟨k + 1, by omega, by omega, by go_num, ⟨_, _, Nat.le_trans (put_len _ _ _ _) (by have := HX.out; omega), HB5.out⟩, HFR.out.trans (FrameB.trans ⟨HB2.out.os, HB2.out.tape, HB2.out.output, HB2.out.size, fun i hi _ => HB2.out.block i (by have := HBel.out.size; omega)⟩ HF5.out)⟩
      case measure => simp [intOf]; omega
    · have hcase : k = l.length ∨ (k < l.length ∧ k = 20) := by omega
      have hsb := signed_range b hb hb'
      have hsn : (signed b != -1) = true := bne_iff_ne.2 (by omega)
      have HR2 := Aside0.mk (fun W => right_plain b W hb hb')
      generalize signed b = sb at *
      have HBel := Aside0.mk hbel
      have HC := Aside0.mk (buf_clear HBR.out (by have := HFR.out.size; simp at this; omega))
      clear hbel
      have hfs : w.heap.size + 1 ≤ wr.heap.size := by have := HFR.out.size; simp at this; omega
      rcases hcase with rfl | ⟨hlt, rfl⟩
      all_goals
        go_wp2_with (first
          | (go_at_call 28; (with_reducible refine HC.out.mono ?_); rintro e w2 ⟨rfl, hb2, hf2⟩; have HB2 := Aside0.mk hb2; have HF2 := Aside0.mk hf2; clear hb2 hf2)
          | (go_at_call 30; (with_reducible refine (open_no _ _ (c1O (HB2.out (fun k => w.heap.size ≤ k)))).mono ?_); rintro e w3 ⟨rfl, rfl⟩)
          | (go_at_call 25; (with_reducible refine (lenO (q := 0) (HB2.out (fun k => w.heap.size ≤ k)) rfl).mono ?_); rintro e w3 ⟨rfl, rfl⟩)
          | (go_at_call 31; (with_reducible refine (numqO (HB2.out (fun k => w.heap.size ≤ k))).mono ?_); rintro e w3 ⟨rfl, rfl⟩)
          | (go_at_call 27; (with_reducible refine (HR2.out _).mono ?_); rintro e w3 ⟨rfl, hb3⟩; have HB3 := Aside0.mk hb3; clear hb3))
        have hsz2 : wr.heap.size ≤ w2.heap.size := HF2.out.size
        have hsz3 : w2.heap.size ≤ w3.heap.size := HB3.out.size
        have HE := Aside0.mk (heap_alloc_new w3 (.cells #[.int .i64 2, .int .i64 sb, .string ⟨#[]⟩, .slice none 0 0, .slice none 0 0, .int .i64 0, .string ⟨#[]⟩, .slice none 0 0, .int .i64 0, .string ⟨#[]⟩, .int .i64 0, .bool false] 49))
        have H4 := Aside0.mk (show Below w2.heap.size w2 (w3.alloc (.cells #[.int .i64 2, .int .i64 sb, .string ⟨#[]⟩, .slice none 0 0, .slice none 0 0, .int .i64 0, .string ⟨#[]⟩, .slice none 0 0, .int .i64 0, .string ⟨#[]⟩, .int .i64 0, .bool false] 49)) from below_step' HB3.out (below_alloc (Below.refl _ _) _))
        have hs4 : w3.heap.size + 1 ≤ (w3.alloc (.cells #[.int .i64 2, .int .i64 sb, .string ⟨#[]⟩, .slice none 0 0, .slice none 0 0, .int .i64 0, .string ⟨#[]⟩, .slice none 0 0, .int .i64 0, .string ⟨#[]⟩, .int .i64 0, .bool false] 49)).heap.size := by simp
        generalize w3.alloc (.cells #[.int .i64 2, .int .i64 sb, .string ⟨#[]⟩, .slice none 0 0, .slice none 0 0, .int .i64 0, .string ⟨#[]⟩, .slice none 0 0, .int .i64 0, .string ⟨#[]⟩, .int .i64 0, .bool false] 49) = w4 at *
        refine (put_first w.heap.size lim sb w4 (BufO.below (HB2.out _) H4.out)).mono ?_
        rintro e w5 ⟨A5, c5, rfl, hb5, hf5⟩
        have hc5 : w5.cell? ⟨w3.heap.size, 1, none⟩ = some (.int .i64 sb) := by
          rw [cell_of_row w5 _ 1 _ _ _ ((hf5.block _ (by omega) (by omega) (by omega)).trans HE.out)]
          rfl
        have HB5 := Aside0.mk hb5
        have HF5 := Aside0.mk hf5
        clear hb5 hf5
        go_wp2
        go_region_held3 (fun W => Below w5.heap.size w5 W ∧ W.cell? ⟨w3.heap.size, 1, none⟩ = some (.int .i64 sb)) (first | (refine ⟨?_, ?_⟩ <;> first | exact Below.refl _ _ | assumption | exact below_step' (by assumption) (by assumption) | exact Below.drew (Below.refl _ _) | exact below_step' (And.left (by assumption)) (by assumption) | exact pw_cell_below (by assumption) (And.right (by assumption)) | go_keep) | go_keep)
          (first
          | (go_at_call 30; (with_reducible refine (openO (BufO.below HB5.out (by exact And.left (by assumption))) hsn).mono ?_); rintro e w6 ⟨rfl, rfl⟩)
          | (go_at_call 31; (with_reducible refine (numqO (BufO.below HB5.out (by exact And.left (by assumption)))).mono ?_); rintro e w6 ⟨rfl, rfl⟩)
          | (go_at_call 24; (with_reducible refine (tx_lives _).mono ?_); rintro e w6 ⟨rfl, hb6⟩))
        go_wp2
        go_ret
        have hfin := And.left (b := World.cell? _ ⟨w3.heap.size, 1, none⟩ = some (.int .i64 sb)) (by assumption)
        have h4 : w2.heap.size ≤ w4.heap.size := H4.out.size
        exact ⟨rfl, ((((HBel.out.trans (HF2.out.below (Nat.le_refl _))).trans (H4.out.mono (by omega))).trans (HF5.out.belowg (fun k hk => by have h1 : w4.heap.size ≤ k := hk; omega) (Nat.le_refl _) (by omega))).trans (hfin.mono (by have := HF5.out.size; omega)))⟩
theorem clears_law (w : World) (a : Int) (ha : -9223372036854775808 ≤ a) (ha' : a ≤ 9223372036854775807) (A : Option Addr) (c : Nat) (l : List Ev) (hC : kEv.C w A l.length l) (hc : l.length ≤ c) (ho : evsOk l) (b : Int) (hb : -9223372036854775808 ≤ b) (hb' : b ≤ 9223372036854775807) :
    Calls Try.prog 10 #[.int .i64 a, .slice A l.length c, .int .i64 b] w fun e w' => e = .returned (.bool true) ∧ Below w.heap.size w w' := clears_any w a A c l hC hc ho b hb hb'
end Go.Proofs.Ytjkgafijifkfcaa
