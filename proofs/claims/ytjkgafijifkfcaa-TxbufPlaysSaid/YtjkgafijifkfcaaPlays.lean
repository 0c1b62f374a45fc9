/- The law TxbufPlays comes to true for every limit and row of events. Conditions: the events read so. -/
import Derived.Test.YtjkgafijifkfcaaPlays0
namespace Go.Proofs.Ytjkgafijifkfcaa
open Go.RowKit Go.Proofs.YtjkgafijifkfcaaW.PrintWords
set_option linter.unusedVariables false
set_option linter.unusedSimpArgs false
set_option maxRecDepth 100000 in
set_option maxHeartbeats 8000000 in
theorem plays_any (w : World) (a : Int) (A : Option Addr) (c : Nat) (l : List Ev) (hC : kEv.C w A l.length l) (hc : l.length ≤ c) (ho : evsOk l) :
    Calls Try.prog 9 #[.int .i64 a, .slice A l.length c] w fun e w' => e = .returned (.bool true) ∧ Below w.heap.size w w' := by
  have hlen : l.length ≤ 9223372036854775807 := hC.2.1
  have HR := Aside0.mk hC
  have HO := Aside0.mk ho
  clear hC ho
  obtain ⟨lim, hlim⟩ : ∃ lim, max a 1 = lim := ⟨_, rfl⟩
  have hlim1 : 1 ≤ lim := by omega
  have N1 := Aside0.mk (fun W => txnew_calls a W)
  have N2 := Aside0.mk (fun W => refnew_calls a W)
  rw [hlim] at N1 N2
  clear hlim
  go_enter Try.func9, Try.ntmps9
  go_upto_block 0 with (first
    | (go_at_call 21; (with_reducible refine (N1.out _).mono ?_); rintro e w1 ⟨rfl, rfl⟩)
    | (go_at_call 26; (with_reducible refine (N2.out _).mono ?_); rintro e w2 ⟨rfl, hb2⟩; have HB2 := Aside0.mk hb2; clear hb2))
  go_wp2
  go_loopw [7] (fun i wr => ∃ k : Nat, k ≤ l.length ∧ k ≤ 40 ∧ i = .int .i64 k ∧ ∃ num xs O ok B d, xs.length ≤ k ∧ PlaysInv w w.heap.size w2.heap.size lim wr num xs O ok B d) (fun i _ => l.length - (intOf i).toNat)
  case atStart =>
    have hsz : w.heap.size + 1 ≤ w2.heap.size := by have := HB2.out.size; simp at this; omega
    exact ⟨0, by omega, by omega, rfl, -1, [], fun _ => False, fun k => k < w.heap.size, none, 0, by simp, ⟨.inl ⟨rfl, rfl⟩, by simp; omega, BufO.below (BufO.below (by
      obtain ⟨A', c', h1, h2⟩ := buf_new w lim
      exact ⟨none, 0, heap_alloc_new _ _, EvRowO.nil _ _ _⟩) HB2.out) (below_alloc (Below.refl _ _) _), heap_alloc_new _ _, Kd.N_nil _ _ _ _ _, fun k hk => hk.elim, fun k hk => ⟨by omega, by omega, by simp; omega⟩, fun k hk => hk, by omega, ⟨Nat.le_refl _, by omega⟩, ((below_alloc (Below.refl _ _) _).trans (HB2.out.mono (by simp))).trans (below_alloc (Below.refl _ _) _ |>.mono (by omega))⟩⟩
  case round =>
    obtain ⟨k, hk, hk40, rfl, num, xs, O, ok, B, d, hx, hinv⟩ := hrel
    have HI := Aside0.mk hinv
    have HX := Aside0.mk hx
    have hbel : Below w.heap.size w wr := hinv.below
    clear hinv hx
    by_cases hgo : k < l.length ∧ k < 40
    · obtain ⟨hlt, h40⟩ := hgo
      obtain ⟨ad, A3, c3, A4, c4, A7, c7, eA, d0, d1, d2, d3, d4, d5, d6, d7, d8, d9, d10, d11, l3, g3, l4, g4, l7, g7⟩ := at_Ev HR.out k hlt
      cases eA
      replace d0 := pw_cell_below hbel d0
      replace d1 := pw_cell_below hbel d1
      replace d2 := pw_cell_below hbel d2
      replace d3 := pw_cell_below hbel d3
      replace d4 := pw_cell_below hbel d4
      replace d5 := pw_cell_below hbel d5
      replace d6 := pw_cell_below hbel d6
      replace d7 := pw_cell_below hbel d7
      replace d8 := pw_cell_below hbel d8
      replace d9 := pw_cell_below hbel d9
      replace d10 := pw_cell_below hbel d10
      replace d11 := pw_cell_below hbel d11
      have hfit := evFit_of HO.out k hlt
      generalize rdEv l k = x at *
      have HFit := Aside0.mk hfit
      have hsr := signed_range x.num hfit.2.1 hfit.2.2
      have P1 := Aside0.mk (right_calls x A3 A4 A7 c3 c4 c7 wr hfit.2.1 hfit.2.2)
      have HFK := Aside0.mk (fun W (h : Below w.heap.size w W) => fk_right x h l3 g3 l4 g4 l7 g7)
      have HBel := Aside0.mk hbel
      clear hfit l3 g3 l4 g4 l7 g7 hbel
      by_cases h99 : x.kind = 99
      · have b99 : (x.kind == 99) = true := beq_iff_eq.2 h99
        clear h99
        go_wp2_with (go_at_call 27; (with_reducible refine P1.out.mono ?_); rintro e w3 ⟨rfl, hb3⟩; have HB3 := Aside0.mk hb3; clear hb3)
        have hs3 : wr.heap.size ≤ w3.heap.size := HB3.out.size
        have hsr1 : w.heap.size ≤ wr.heap.size := HBel.out.size
        have hrb : w2.heap.size < wr.heap.size := (Array.getElem?_eq_some_iff.1 HI.out.blk).1
        have hrg : w2.heap.size ≠ w.heap.size := HI.out.ne
        have H4 := Aside0.mk (show Below wr.heap.size wr (w3.alloc (.cells #[.int .i64 x.kind, .int .i64 (signed x.num), .string x.table, .slice A3 x.before.length c3, .slice A4 x.after.length c4, .int .i64 x.change.kind, .string x.change.table, .slice A7 x.change.schema.cols.length c7, .int .i64 x.change.schema.keys, .string x.change.column.name, .int .i64 x.change.column.kind, .bool x.change.column.none] 49)) from below_more HB3.out (below_alloc (Below.refl _ _) _))
        generalize w3.alloc (.cells #[.int .i64 x.kind, .int .i64 (signed x.num), .string x.table, .slice A3 x.before.length c3, .slice A4 x.after.length c4, .int .i64 x.change.kind, .string x.change.table, .slice A7 x.change.schema.cols.length c7, .int .i64 x.change.schema.keys, .string x.change.column.name, .int .i64 x.change.column.kind, .bool x.change.column.none] 49) = w4 at *
        have hs4 : wr.heap.size ≤ w4.heap.size := H4.out.size
        refine (clearO (BufO.below HI.out.buf H4.out)).mono ?_
        rintro e w5 ⟨rfl, hbuf5, hf5⟩
        have HBuf5 := Aside0.mk hbuf5
        have HF5 := Aside0.mk hf5
        have HR5 := Aside0.mk (show RefBlk w5 w2.heap.size lim num (.slice B xs.length d) from ((hf5.block w2.heap.size (by omega) (fun h => h) hrg).trans (H4.out.block _ hrb)).trans HI.out.blk)
        have hs5 : w4.heap.size ≤ w5.heap.size := hf5.size
        have HBel5 := Aside0.mk (show Below w.heap.size w w5 from (HBel.out.trans (H4.out.mono hsr1)).trans (hf5.belowg (fun k h => h.elim) (Nat.le_refl _) (by omega)))
        clear hbuf5 hf5
        go_wp2_with (go_at_call 26; (with_reducible refine (N2.out _).mono ?_); rintro e w6 ⟨rfl, hb6⟩; have HB6 := Aside0.mk hb6; have HR6 : Aside0 (RefBlk w6 w2.heap.size lim num (.slice B xs.length d)) := ⟨(hb6.block _ (by omega)).trans HR5.out⟩; clear hb6; obtain ⟨k0, k1, k2⟩ := ref_cells HR6.out; have f0 := frozen_of_row _ _ 0 _ _ HR6.out; have f1 := frozen_of_row _ _ 1 _ _ HR6.out; have f2 := frozen_of_row _ _ 2 _ _ HR6.out)
        have b8 := set3_same w6 w2.heap.size (.int .i64 lim) (.int .i64 (-1)) (.slice none 0 0) _ _ _ _ HR6.out
        have o8 := set3_other w6 w2.heap.size (.int .i64 lim) (.int .i64 (-1)) (.slice none 0 0)
        have hb8 : Below w.heap.size w6 (((w6.setCell ⟨w2.heap.size, 0, none⟩ (.int .i64 lim)).setCell ⟨w2.heap.size, 1, none⟩ (.int .i64 (-1))).setCell ⟨w2.heap.size, 2, none⟩ (.slice none 0 0)) := set3_below _ _ _ _ _ _ HI.out.lo.2
        have hs6 : w5.heap.size ≤ w6.heap.size := HB6.out.size
        have HI8 : Aside0 (PlaysInv w w.heap.size w2.heap.size lim (((w6.setCell ⟨w2.heap.size, 0, none⟩ (.int .i64 lim)).setCell ⟨w2.heap.size, 1, none⟩ (.int .i64 (-1))).setCell ⟨w2.heap.size, 2, none⟩ (.slice none 0 0)) (-1) [] (fun _ => False) (fun k => k < w.heap.size) none 0) :=
          ⟨.inl ⟨rfl, rfl⟩, by simp; omega, BufO.kept (BufO.below HBuf5.out HB6.out) (fun k hk _ => o8 k (by rcases hk with h | h; exact h.elim; omega)), b8, Kd.N_nil _ _ _ _ _, fun k h => h.elim, fun k hk => ⟨by omega, by have := HI.out.lo; omega, by have := hb8.size; omega⟩, fun k hk => hk, hrg, HI.out.lo, (HBel5.out.trans (HB6.out.mono (by omega))).trans hb8⟩
        clear k0 k1 k2 f0 f1 f2 b8 o8 hb8
        go_roundw
        case rel => exact ⟨k + 1, by omega, by omega, by go_num, _, _, _, _, _, _, by simp, HI8.out⟩
        case measure => simp [intOf]; omega
      · have b99 : (x.kind == 99) = false := beq_eq_false_iff_ne.2 h99
        clear h99
        go_wp2_with (go_at_call 27; (with_reducible refine P1.out.mono ?_); rintro e w3 ⟨rfl, hb3⟩; have HB3 := Aside0.mk hb3; clear hb3)
        have hs3 : wr.heap.size ≤ w3.heap.size := HB3.out.size
        have hsr1 : w.heap.size ≤ wr.heap.size := HBel.out.size
        have hgl : w.heap.size < wr.heap.size := by obtain ⟨_, _, h, _⟩ := HI.out.buf; exact h.lt
        have HE := Aside0.mk (heap_alloc_new w3 (.cells #[.int .i64 x.kind, .int .i64 (signed x.num), .string x.table, .slice A3 x.before.length c3, .slice A4 x.after.length c4, .int .i64 x.change.kind, .string x.change.table, .slice A7 x.change.schema.cols.length c7, .int .i64 x.change.schema.keys, .string x.change.column.name, .int .i64 x.change.column.kind, .bool x.change.column.none] 49))
        have H4 := Aside0.mk (show Below wr.heap.size wr (w3.alloc (.cells #[.int .i64 x.kind, .int .i64 (signed x.num), .string x.table, .slice A3 x.before.length c3, .slice A4 x.after.length c4, .int .i64 x.change.kind, .string x.change.table, .slice A7 x.change.schema.cols.length c7, .int .i64 x.change.schema.keys, .string x.change.column.name, .int .i64 x.change.column.kind, .bool x.change.column.none] 49)) from below_more HB3.out (below_alloc (Below.refl _ _) _))
        have hs4 : w3.heap.size + 1 ≤ (w3.alloc (.cells #[.int .i64 x.kind, .int .i64 (signed x.num), .string x.table, .slice A3 x.before.length c3, .slice A4 x.after.length c4, .int .i64 x.change.kind, .string x.change.table, .slice A7 x.change.schema.cols.length c7, .int .i64 x.change.schema.keys, .string x.change.column.name, .int .i64 x.change.column.kind, .bool x.change.column.none] 49)).heap.size := by simp
        generalize w3.alloc (.cells #[.int .i64 x.kind, .int .i64 (signed x.num), .string x.table, .slice A3 x.before.length c3, .slice A4 x.after.length c4, .int .i64 x.change.kind, .string x.change.table, .slice A7 x.change.schema.cols.length c7, .int .i64 x.change.schema.keys, .string x.change.column.name, .int .i64 x.change.column.kind, .bool x.change.column.none] 49) = w4 at *
        have hxs : xs.length ≤ 40 := by have := HX.out; omega
        obtain ⟨p, hp⟩ : ∃ p, putR lim num xs (rightE x) = p := ⟨_, rfl⟩
        have hpc : closedOr p.num p.xs := hp ▸ putR_closed lim num xs (rightE x) HI.out.closed hsr.1
        have hpl : (p.xs.length : Int) ≤ lim := hp ▸ putR_lim lim num xs (rightE x) HI.out.lims hlim1
        have hpk : p.xs.length ≤ k + 1 := by have := put_len lim num xs (rightE x); rw [hp] at this; have := HX.out; omega
        have PP := put_rightO (fun k => O k ∨ w4.heap.size ≤ k) w.heap.size lim num xs x w4 (Kd.FK_now (HFK.out w4 (HBel.out.trans (H4.out.mono hsr1)))) HFit.out ((BufO.below HI.out.buf H4.out).mono (fun k ho _ => .inl ho)) (fun k hk => .inr hk) (by omega)
        rw [hp] at PP
        have PQ := Aside0.mk (fun W hN hfr hX => refput_right (fun k => ok k ∨ W.heap.size ≤ k) 0 lim num xs x B d (A3 := A3) (A4 := A4) (A7 := A7) (c3 := c3) (c4 := c4) (c7 := c7) W hN HI.out.closed HI.out.lims (by omega) (Nat.zero_le _) hfr (fun k => k < w.heap.size) hX (fun k hk => .inl (HI.out.args k hk)))
        rw [hp] at PQ
        clear hp
        obtain ⟨num', xs', out, t, r⟩ := p
        have HPC := Aside0.mk hpc
        clear hpc
        refine PP.mono ?_
        clear PP
        rintro e w5 ⟨v5, rfl, hrow5, hbuf5, hf5⟩
        obtain ⟨A5, c5, rfl⟩ := Kd.R_slice hrow5
        have hrb : w2.heap.size < wr.heap.size := (Array.getElem?_eq_some_iff.1 HI.out.blk).1
        have hrg : w2.heap.size ≠ w.heap.size := HI.out.ne
        have hR5 : RefBlk w5 w2.heap.size lim num (.slice B xs.length d) := ((hf5.block w2.heap.size (by omega) (fun ho => by rcases ho with ho | ho; exact (HI.out.oO _ ho).2.2.1 rfl; omega) hrg).trans (H4.out.block _ hrb)).trans HI.out.blk
        have hE5 := (hf5.block w3.heap.size (by omega) (fun ho => by rcases ho with ho | ho; have := (HI.out.oO _ ho).2.1; omega; omega) (by omega)).trans HE.out
        have hN5 : Kd.N kEv 49 w5 0 (fun k => ok k ∨ w5.heap.size ≤ k) (.slice B xs.length d) xs := Kd.N_mono (Kd.N_step HI.out.row (fun k hk hlt => (hf5.block k (by omega) (fun ho => by rcases ho with ho | ho; exact (HI.out.oO _ ho).2.2.2.2 hk; omega) (HI.out.oK k hk).1).trans (H4.out.block k hlt))) (fun k hk => .inl hk)
        have hbel5 : Below w.heap.size w w5 := (HBel.out.trans (H4.out.mono hsr1)).trans (hf5.belowg (fun k ho => by rcases ho with ho | ho; exact (HI.out.oO _ ho).1; omega) (Nat.le_refl _) (by omega))
        have hs5 : w4.heap.size ≤ w5.heap.size := hf5.size
        have PQ5 := Aside0.mk (PQ.out w5 hN5 (fun k hk => .inr hk) (HFK.out w5 hbel5))
        have HRow5 := Aside0.mk hrow5
        have HBuf5 := Aside0.mk hbuf5
        have HN5 := Aside0.mk hN5
        have HR5 := Aside0.mk hR5
        have HBel5 := Aside0.mk hbel5
        obtain ⟨r0, r1, r2⟩ := ref_cells hR5
        have e0 : w5.cell? ⟨w3.heap.size, 0, none⟩ = some (.int .i64 x.kind) := cell_of_row w5 _ 0 _ _ _ hE5
        have e1 : w5.cell? ⟨w3.heap.size, 1, none⟩ = some (.int .i64 (signed x.num)) := cell_of_row w5 _ 1 _ _ _ hE5
        have e2 : w5.cell? ⟨w3.heap.size, 2, none⟩ = some (.string x.table) := cell_of_row w5 _ 2 _ _ _ hE5
        have e3 : w5.cell? ⟨w3.heap.size, 3, none⟩ = some (.slice A3 x.before.length c3) := cell_of_row w5 _ 3 _ _ _ hE5
        have e4 : w5.cell? ⟨w3.heap.size, 4, none⟩ = some (.slice A4 x.after.length c4) := cell_of_row w5 _ 4 _ _ _ hE5
        have e5 : w5.cell? ⟨w3.heap.size, 5, none⟩ = some (.int .i64 x.change.kind) := cell_of_row w5 _ 5 _ _ _ hE5
        have e6 : w5.cell? ⟨w3.heap.size, 6, none⟩ = some (.string x.change.table) := cell_of_row w5 _ 6 _ _ _ hE5
        have e7 : w5.cell? ⟨w3.heap.size, 7, none⟩ = some (.slice A7 x.change.schema.cols.length c7) := cell_of_row w5 _ 7 _ _ _ hE5
        have e8 : w5.cell? ⟨w3.heap.size, 8, none⟩ = some (.int .i64 x.change.schema.keys) := cell_of_row w5 _ 8 _ _ _ hE5
        have e9 : w5.cell? ⟨w3.heap.size, 9, none⟩ = some (.string x.change.column.name) := cell_of_row w5 _ 9 _ _ _ hE5
        have e10 : w5.cell? ⟨w3.heap.size, 10, none⟩ = some (.int .i64 x.change.column.kind) := cell_of_row w5 _ 10 _ _ _ hE5
        have e11 : w5.cell? ⟨w3.heap.size, 11, none⟩ = some (.bool x.change.column.none) := cell_of_row w5 _ 11 _ _ _ hE5
        clear PQ hrow5 hbuf5 hN5 hR5 hbel5 hf5 hE5
        go_upto_region 14 with (first
          | (go_at_call 29; (with_reducible refine PQ5.out.mono ?_); rintro e w6 ⟨v6, v7, rfl, hN6, hN7, hb6⟩; obtain ⟨B6, d6, rfl⟩ := Kd.N_slice hN6; obtain ⟨B7, d7, rfl⟩ := Kd.N_slice hN7; have HN6 := Aside0.mk hN6; have HN7 := Aside0.mk hN7; have HB6 := Aside0.mk hb6; have HRB6 : Aside0 (∀ o, RefBlk (w6.alloc o) w2.heap.size lim num (.slice B xs.length d)) := ⟨fun o => ((below_more hb6 (below_alloc (Below.refl _ _) o)).block _ (by omega)).trans HR5.out⟩; have k0 := fun o => (ref_cells (HRB6.out o)).1; have k1 := fun o => (ref_cells (HRB6.out o)).2.1; have k2 := fun o => (ref_cells (HRB6.out o)).2.2; have f0 := fun o => frozen_of_row _ _ 0 _ _ (HRB6.out o); have f1 := fun o => frozen_of_row _ _ 1 _ _ (HRB6.out o); have f2 := fun o => frozen_of_row _ _ 2 _ _ (HRB6.out o); clear hN6 hN7 hb6))
        go_wp2
        have b8 := set3_same _ w2.heap.size (.int .i64 lim) (.int .i64 num') (.slice B6 xs'.length d6) _ _ _ _ (HRB6.out (.cells #[.int .i64 lim, .int .i64 num', .slice B6 xs'.length d6] 55))
        have o8 : ∀ k, k ≠ w2.heap.size → k < w6.heap.size → ((((w6.alloc (.cells #[.int .i64 lim, .int .i64 num', .slice B6 xs'.length d6] 55)).setCell ⟨w2.heap.size, 0, none⟩ (.int .i64 lim)).setCell ⟨w2.heap.size, 1, none⟩ (.int .i64 num')).setCell ⟨w2.heap.size, 2, none⟩ (.slice B6 xs'.length d6)).heap[k]? = w6.heap[k]? := fun k hk hlt => (set3_other _ _ _ _ _ k hk).trans ((below_alloc (Below.refl w6.heap.size w6) _).block k hlt)
        have s8 : w6.heap.size ≤ ((((w6.alloc (.cells #[.int .i64 lim, .int .i64 num', .slice B6 xs'.length d6] 55)).setCell ⟨w2.heap.size, 0, none⟩ (.int .i64 lim)).setCell ⟨w2.heap.size, 1, none⟩ (.int .i64 num')).setCell ⟨w2.heap.size, 2, none⟩ (.slice B6 xs'.length d6)).heap.size := by simp [World.setCell]
        have hb8 : Below w.heap.size w6 ((((w6.alloc (.cells #[.int .i64 lim, .int .i64 num', .slice B6 xs'.length d6] 55)).setCell ⟨w2.heap.size, 0, none⟩ (.int .i64 lim)).setCell ⟨w2.heap.size, 1, none⟩ (.int .i64 num')).setCell ⟨w2.heap.size, 2, none⟩ (.slice B6 xs'.length d6)) := ((below_alloc (Below.refl w6.heap.size w6) _).mono (by have := HB6.out.size; have := HBel5.out.size; omega)).trans (set3_below _ _ _ _ _ _ HI.out.lo.2)
        clear k0 k1 k2 f0 f1 f2 HRB6
        generalize (((w6.alloc (.cells #[.int .i64 lim, .int .i64 num', .slice B6 xs'.length d6] 55)).setCell ⟨w2.heap.size, 0, none⟩ (.int .i64 lim)).setCell ⟨w2.heap.size, 1, none⟩ (.int .i64 num')).setCell ⟨w2.heap.size, 2, none⟩ (.slice B6 xs'.length d6) = w8 at *
        obtain ⟨hI8, hx8, hy8⟩ := plays_step HI.out (by omega) hs5 HBel5.out HB6.out o8 b8 s8 hb8 HPC.out hpl HBuf5.out HRow5.out HN6.out HN7.out
        obtain ⟨-, q1, q2⟩ := ref_cells b8
        have HI8 := Aside0.mk hI8
        have S8 := Aside0.mk (fun W (h : Below w8.heap.size w8 W) => same07 A5 B7 c5 d7 out W (Kd.C_below hx8 h) (Kd.C_below hy8 h))
        have L8 := Aside0.mk (fun W (h : Below w8.heap.size w8 W) => lenO (hI8.buf.below h) rfl)
        have O8 := Aside0.mk (fun W (h : Below w8.heap.size w8 W) => openD (hI8.buf.below h) HPC.out)
        have M8 := Aside0.mk (fun W (h : Below w8.heap.size w8 W) => numqO (hI8.buf.below h))
        clear hI8 hx8 hy8 b8 o8 s8 hb8 r0 r1 r2 e0 e1 e2 e3 e4 e5 e6 e7 e8 e9 e10 e11
        go_region_held3 (fun W => Below w8.heap.size w8 W ∧ W.cell? ⟨w2.heap.size, 1, none⟩ = some (.int .i64 num') ∧ W.cell? ⟨w2.heap.size, 2, none⟩ = some (.slice B6 xs'.length d6))
          (first | (refine ⟨?_, ?_, ?_⟩ <;> first | exact Below.refl _ _ | assumption | exact below_step' (by assumption) (by assumption) | exact below_step' (And.left (by assumption)) (by assumption) | exact Below.drew (Below.refl _ _) | exact pw_cell_below (by assumption) (And.left (And.right (by assumption))) | exact pw_cell_below (by assumption) (And.right (And.right (by assumption))) | go_keep) | go_keep)
          (first
          | (go_at_call 23; (with_reducible refine (S8.out _ (by first | assumption | exact And.left (by assumption))).mono ?_); rintro e w9 ⟨rfl, hb9⟩)
          | (go_at_call 25; (with_reducible refine (L8.out _ (by first | assumption | exact And.left (by assumption))).mono ?_); rintro e w9 ⟨rfl, rfl⟩)
          | (go_at_call 30; (with_reducible refine (O8.out _ (by first | assumption | exact And.left (by assumption))).mono ?_); rintro e w9 ⟨rfl, rfl⟩)
          | (go_at_call 31; (with_reducible refine (M8.out _ (by first | assumption | exact And.left (by assumption))).mono ?_); rintro e w9 ⟨rfl, rfl⟩))
        go_wp2
        go_roundw
        case rel => exact ⟨k + 1, by omega, by omega, by go_num, _, _, _, _, _, _, hpk, HI8.out.later (And.left (by assumption))⟩
        case measure => simp [intOf]; omega
    · have hcase : k = l.length ∨ (k < l.length ∧ k = 40) := by omega
      rcases hcase with rfl | ⟨hlt, rfl⟩
      all_goals
        go_wp2_with (go_at_call 24; (with_reducible refine (tx_lives _).mono ?_); rintro e w9 ⟨rfl, hb9⟩)
        go_ret
        exact ⟨rfl, hbel.trans (hb9.mono hbel.size)⟩
theorem plays_law (w : World) (a : Int) (ha : -9223372036854775808 ≤ a) (ha' : a ≤ 9223372036854775807) (A : Option Addr) (c : Nat) (l : List Ev) (hC : kEv.C w A l.length l) (hc : l.length ≤ c) (ho : evsOk l) :
    Calls Try.prog 9 #[.int .i64 a, .slice A l.length c] w fun e w' => e = .returned (.bool true) ∧ Below w.heap.size w w' := plays_any w a A c l hC hc ho
end Go.Proofs.Ytjkgafijifkfcaa
