/- The document's comparison of rows tells that what reads alike is the same. Conditions: both read so. -/
import Derived.Test.YtmdofdaiepilbaaGreatDoorGPush
import Derived.Test.YtmdofdaiepilbaaGreatDoorByt
import Derived.Test.YtmdofdaiepilbaaGreatDoorGSame
import Derived.Test.YtmdofdaiepilbaaGreatDoorGKeys
import Derived.Test.YtmdofdaiepilbaaGreatDoorSchFits
import Derived.Test.YtmdofdaiepilbaaGreatDoorGCov
import Derived.Outline
namespace Go.Proofs.YtmdofdaiepilbaaGreatDoor
open Go.RowKit Go.Proofs.YtmdofdaiepilbaaGreatDoorW.PrintWords
set_option linter.unusedVariables false
set_option linter.unusedSimpArgs false
theorem rdL_getS {α : Type} {l : List (List α)} {k : Nat} (h : k < l.length) : rdL l k = l[k] := by unfold rdL; simp [List.getD_eq_getElem?_getD, h]
set_option maxRecDepth 100000 in
set_option maxHeartbeats 8000000 in
theorem sameR10 (A B : Option Addr) (c d : Nat) (xs : List (List Val)) (w : World) (hA : kRow.C w A xs.length xs) (hB : kRow.C w B xs.length xs) :
    Calls Tryz.prog 19 #[.slice A xs.length c, .slice B xs.length d] w fun e w' => e = .returned (.bool true) ∧ Below w.heap.size w w' := by
  have hlen : xs.length ≤ 9223372036854775807 := hA.2.1
  have HA := Aside0.mk hA
  have HB := Aside0.mk hB
  clear hA hB
  go_enter Tryz.func19, Tryz.ntmps19
  go_wp2
  go_loopw [5] (fun i wr => Below w.heap.size w wr ∧ ∃ k : Nat, k ≤ xs.length ∧ i = .int .i64 k) (fun i _ => xs.length - (intOf i).toNat)
  case atStart => exact ⟨Below.refl _ _, 0, by omega, rfl⟩
  case round =>
    obtain ⟨hbel, k, hk, rfl⟩ := hrel
    have HBel := Aside0.mk hbel
    clear hbel
    by_cases hlt : k < xs.length
    case neg =>
      obtain rfl : k = xs.length := by omega
      go_wp2
      go_ret
      exact ⟨rfl, HBel.out⟩
    have hlt' : ((k : Nat) : Int) < (xs.length : Int) := by omega
    obtain ⟨ad, R0, r0, rfl, d0, hr0, hR0⟩ := at_slice (d := kVal) (e := 75) HA.out k hlt
    obtain ⟨bd, Q0, q0, rfl, f0, hq0, hQ0⟩ := at_slice (d := kVal) (e := 75) HB.out k hlt
    have HD := Aside0.mk (fun (W : World) (h : Below w.heap.size w W) => And.intro (pw_cell_below h d0) (pw_cell_below h f0))
    have HR0 := Aside0.mk hR0
    have HQ0 := Aside0.mk hQ0
    have hrl : (rdL xs k).length ≤ 9223372036854775807 := hR0.2.1
    clear d0 f0 hR0 hQ0 hr0 hq0
    obtain ⟨d0, f0⟩ := HD.out wr HBel.out
    generalize rdL xs k = row at *
    go_wp2
    go_quiet (fail)
    go_wp2
    go_loopw [6] (fun j wq => Below w.heap.size w wq ∧ ∃ m : Nat, m ≤ row.length ∧ j = .int .i64 m) (fun j _ => row.length - (intOf j).toNat)
    case atStart => exact ⟨pw_below_drewN HBel.out _, 0, by omega, rfl⟩
    case round =>
      obtain ⟨hbel, m, hm, rfl⟩ := hrel
      have HBel2 := Aside0.mk hbel
      clear hbel d0 f0
      obtain ⟨d0, f0⟩ := HD.out wr HBel2.out
      by_cases hml : m < row.length
      · have hml' : ((m : Nat) : Int) < (row.length : Int) := by omega
        obtain ⟨a2, rfl, g0, g1, g2⟩ := at_Val HR0.out m hml
        obtain ⟨b2, rfl, h0, h1, h2⟩ := at_Val HQ0.out m hml
        replace g0 := pw_cell_below HBel2.out g0
        replace g1 := pw_cell_below HBel2.out g1
        replace g2 := pw_cell_below HBel2.out g2
        replace h0 := pw_cell_below HBel2.out h0
        replace h1 := pw_cell_below HBel2.out h1
        replace h2 := pw_cell_below HBel2.out h2
        generalize rdVal row m = x at *
        go_wp2
        go_quiet (fail)
        go_wp2
        go_roundw
        case rel => exact ⟨pw_below_drewN HBel2.out _, m + 1, by omega, by go_num⟩
        case measure => simp [intOf]; omega
      · obtain rfl : m = row.length := by omega
        go_wp2
        go_roundw
        case rel => exact ⟨HBel2.out, k + 1, by omega, by go_num⟩
        case measure => simp [intOf]; omega
end Go.Proofs.YtmdofdaiepilbaaGreatDoor

/- The document's Good of a value: a value that may be. Conditions: its numbers are of their size. -/
namespace Go.Proofs.YtmdofdaiepilbaaGreatDoor
open Go.RowKit Go.Proofs.YtmdofdaiepilbaaGreatDoorW.PrintWords
set_option linter.unusedVariables false
set_option linter.unusedSimpArgs false
/-- a value that may be, and is short -/
def okVal (k : Int) (v : Val) : Prop := valB v = true ∧ v.text.size ≤ 40 ∧ i64Ok v.num ∧ (0 ≤ k → k ≤ 4 → v.kind = k)
def GoodVTell (w : World) (k : Int) (e : Ending) (w' : World) : Prop := ∃ v : Val, e = .returned (.agg #[.int .i64 v.kind, .int .i64 v.num, .string v.text]) ∧ okVal k v ∧ Below w.heap.size w w'
theorem mod5_neg (k : Int) (h : k < 0) : 0 ≤ -((k + 1).tmod 5) ∧ -((k + 1).tmod 5) ≤ 4 := by
  rw [← Int.neg_tmod, Int.tmod_eq_emod_of_nonneg (by omega)]
  omega
/-- the beginning of a text -/
def cut40 (s : ByteArray) : ByteArray := if s.size > 40 then s.extract 0 40 else s
theorem cut40_size (s : ByteArray) : (cut40 s).size ≤ 40 := by
  unfold cut40
  split
  · rw [ByteArray.size_extract]; omega
  · omega
theorem GoodVTell.mk {w w' : World} {k : Int} (v : Val) (h : okVal k v) (hb : Below w.heap.size w w') : GoodVTell w k (.returned (.agg #[.int .i64 v.kind, .int .i64 v.num, .string v.text])) w' := ⟨v, rfl, h, hb⟩
set_option maxRecDepth 100000 in
set_option maxHeartbeats 8000000 in
theorem good03_calls (k n : Int) (s : ByteArray) (hk : i64Ok k) (hn : i64Ok n) (hs : s.size ≤ 9223372036854775000) (w : World) :
    Calls Tryz.prog 70 #[.agg #[.int .i64 k, .int .i64 n, .string s]] w (GoodVTell w k) := by
  unfold i64Ok at hk hn
  have hm1 := mod5_neg k
  have HU := Aside0.mk (fun W => utf8_calls (cut40 s) (by have := cut40_size s; omega) W)
  have hcz := cut40_size s
  have hc40 : cut40 s = if s.size > 40 then s.extract 0 40 else s := rfl
  by_cases h0 : k < 0
  all_goals
    go_enter Tryz.func70, Tryz.ntmps70
    go_upto_region 6 with fail
  all_goals
    first
      | (replace hm1 := hm1 h0; have hkr : 0 ≤ k → k ≤ 4 → -((k + 1).tmod 5) = k := (by omega); generalize -((k + 1).tmod 5) = r at *)
      | (have hm2 : 0 ≤ k % 5 ∧ k % 5 ≤ 4 := (by omega); have hkr : 0 ≤ k → k ≤ 4 → k % 5 = k := (by omega); clear hm1; generalize k % 5 = r at *; have hm1 := hm2; clear hm2)
  all_goals
    have hb0 : Below w.heap.size w (((w.alloc (.cells #[.int .i64 k, .int .i64 n, .string s] 75)).alloc (.cells #[.int .i64 0, .int .i64 0, .string ⟨#[]⟩] 75)).alloc (.cells #[.int .i64 r, .int .i64 0, .string ⟨#[]⟩] 75)) := below_alloc (below_alloc (below_alloc (Below.refl _ _) _) _) _
    have h00 : (((w.alloc (.cells #[.int .i64 k, .int .i64 n, .string s] 75)).alloc (.cells #[.int .i64 0, .int .i64 0, .string ⟨#[]⟩] 75)).alloc (.cells #[.int .i64 r, .int .i64 0, .string ⟨#[]⟩] 75)).heap[w.heap.size]? = some (.cells #[.int .i64 k, .int .i64 n, .string s] 75 (0, 0)) := ((below_alloc (below_alloc (Below.refl _ _) _) _).block _ (by simp)).trans (heap_alloc_new _ _)
    have h01 : (((w.alloc (.cells #[.int .i64 k, .int .i64 n, .string s] 75)).alloc (.cells #[.int .i64 0, .int .i64 0, .string ⟨#[]⟩] 75)).alloc (.cells #[.int .i64 r, .int .i64 0, .string ⟨#[]⟩] 75)).heap[w.heap.size + 1]? = some (.cells #[.int .i64 0, .int .i64 0, .string ⟨#[]⟩] 75 (0, 0)) := ((below_alloc (Below.refl _ _) _).block _ (by simp)).trans (by have := heap_alloc_new (w.alloc (.cells #[.int .i64 k, .int .i64 n, .string s] 75)) (.cells #[.int .i64 0, .int .i64 0, .string ⟨#[]⟩] 75); rwa [World.size_alloc] at this)
    have h02 : (((w.alloc (.cells #[.int .i64 k, .int .i64 n, .string s] 75)).alloc (.cells #[.int .i64 0, .int .i64 0, .string ⟨#[]⟩] 75)).alloc (.cells #[.int .i64 r, .int .i64 0, .string ⟨#[]⟩] 75)).heap[w.heap.size + 1 + 1]? = some (.cells #[.int .i64 r, .int .i64 0, .string ⟨#[]⟩] 75 (0, 0)) := by have := heap_alloc_new ((w.alloc (.cells #[.int .i64 k, .int .i64 n, .string s] 75)).alloc (.cells #[.int .i64 0, .int .i64 0, .string ⟨#[]⟩] 75)) (.cells #[.int .i64 r, .int .i64 0, .string ⟨#[]⟩] 75); rwa [World.size_alloc, World.size_alloc] at this
    generalize ((w.alloc (.cells #[.int .i64 k, .int .i64 n, .string s] 75)).alloc (.cells #[.int .i64 0, .int .i64 0, .string ⟨#[]⟩] 75)).alloc (.cells #[.int .i64 r, .int .i64 0, .string ⟨#[]⟩] 75) = W at *
    have HB0 := Aside0.mk hb0
    have a1 : W.cell? ⟨w.heap.size, 1, none⟩ = some (.int .i64 n) := cell_of_row _ _ 1 _ _ _ h00
    have b0 : W.cell? ⟨w.heap.size + 1, 0, none⟩ = some (.int .i64 0) := cell_of_row _ _ 0 _ _ _ h01
    have b1 : W.cell? ⟨w.heap.size + 1, 1, none⟩ = some (.int .i64 0) := cell_of_row _ _ 1 _ _ _ h01
    have b2 : W.cell? ⟨w.heap.size + 1, 2, none⟩ = some (.string ⟨#[]⟩) := cell_of_row _ _ 2 _ _ _ h01
    have y0 := frozen_of_row W (w.heap.size + 1) 0 _ _ h01
    have y1 := frozen_of_row W (w.heap.size + 1) 1 _ _ h01
    have y2 := frozen_of_row W (w.heap.size + 1) 2 _ _ h01
    have c0 : W.cell? ⟨w.heap.size + 1 + 1, 0, none⟩ = some (.int .i64 r) := cell_of_row _ _ 0 _ _ _ h02
    have c1 : W.cell? ⟨w.heap.size + 1 + 1, 1, none⟩ = some (.int .i64 0) := cell_of_row _ _ 1 _ _ _ h02
    have c2 : W.cell? ⟨w.heap.size + 1 + 1, 2, none⟩ = some (.string ⟨#[]⟩) := cell_of_row _ _ 2 _ _ _ h02
    have z0 := frozen_of_row W (w.heap.size + 1 + 1) 0 _ _ h02
    have z1 := frozen_of_row W (w.heap.size + 1 + 1) 1 _ _ h02
    have z2 := frozen_of_row W (w.heap.size + 1 + 1) 2 _ _ h02
    clear h00 h01 h02 hb0 h0
    have HT : Aside0 (∀ v : Val, v.kind = r → valB v = true → v.text.size ≤ 40 → i64Ok v.num → okVal k v) := ⟨fun v h1 h2 h3 h4 => ⟨h2, h3, h4, fun h5 h6 => by rw [h1]; exact hkr h5 h6⟩⟩
    clear hkr
    rcases (show s.size > 40 ∨ ¬ s.size > 40 from Classical.em _) with h40 | h40
    all_goals
      first | rw [if_pos h40] at hc40 | rw [if_neg h40] at hc40
      go_upto_region 8 with fail
      first | rw [← hc40] | skip
      clear hc40 h40 hs
      generalize cut40 s = t at *
      have HTT := Aside0.mk hcz
      rcases (show r = 0 ∨ r = 1 ∨ r = 2 ∨ r = 3 ∨ r = 4 by omega) with rfl | rfl | rfl | rfl | rfl
      · go_wp2
        exact bodyPost_ret (v := .agg #[.int .i64 0, .int .i64 0, .string ⟨#[]⟩]) (by simp [results, Tryz.results70, go_sem, *]) rfl (GoodVTell.mk ⟨0, 0, ⟨#[]⟩⟩ (HT.out _ rfl (by first | rfl | exact HV.out | (simp [valB]; done) | (simp [valB]; omega)) (by first | exact Nat.zero_le _ | exact hcz | (simp; done)) (by unfold i64Ok; simp only; omega)) (by repeat (first | exact HB0.out | refine Below.setCell ?_ (by simp only; omega) _)))
      · by_cases hp : n.tmod 2 = 0
        · have hq : (n.tmod 2 != 0) = false := by rw [hp]; rfl
          go_wp2
          exact bodyPost_ret (v := .agg #[.int .i64 1, .int .i64 0, .string ⟨#[]⟩]) (by simp [results, Tryz.results70, go_sem, *]) rfl (GoodVTell.mk ⟨1, 0, ⟨#[]⟩⟩ (HT.out _ rfl (by first | rfl | exact HV.out | (simp [valB]; done) | (simp [valB]; omega)) (by first | exact Nat.zero_le _ | exact hcz | (simp; done)) (by unfold i64Ok; simp only; omega)) (by repeat (first | exact HB0.out | refine Below.setCell ?_ (by simp only; omega) _)))
        · have hq : (n.tmod 2 != 0) = true := by simpa using hp
          go_wp2
          exact bodyPost_ret (v := .agg #[.int .i64 1, .int .i64 1, .string ⟨#[]⟩]) (by simp [results, Tryz.results70, go_sem, *]) rfl (GoodVTell.mk ⟨1, 1, ⟨#[]⟩⟩ (HT.out _ rfl (by first | rfl | exact HV.out | (simp [valB]; done) | (simp [valB]; omega)) (by first | exact Nat.zero_le _ | exact hcz | (simp; done)) (by unfold i64Ok; simp only; omega)) (by repeat (first | exact HB0.out | refine Below.setCell ?_ (by simp only; omega) _)))
      · go_wp2
        exact bodyPost_ret (v := .agg #[.int .i64 2, .int .i64 n, .string ⟨#[]⟩]) (by simp [results, Tryz.results70, go_sem, *]) rfl (GoodVTell.mk ⟨2, n, ⟨#[]⟩⟩ (HT.out _ rfl (by first | rfl | exact HV.out | (simp [valB]; done) | (simp [valB]; omega)) (by first | exact Nat.zero_le _ | exact hcz | (simp; done)) (by unfold i64Ok; simp only; omega)) (by repeat (first | exact HB0.out | refine Below.setCell ?_ (by simp only; omega) _)))
      · cases hv : Lib.validD t.data.toList
        · rw [hv] at HU
          clear hv
          go_wp2_with (go_at_call 89; (with_reducible refine (HU.out _).mono ?_); rintro e w1 ⟨rfl, hw1⟩; have hw2 := hw1.symm; clear hw1; subst hw2)
          exact bodyPost_ret (v := .agg #[.int .i64 3, .int .i64 0, .string ⟨#[]⟩]) (by simp [results, Tryz.results70, go_sem, *]) rfl (GoodVTell.mk ⟨3, 0, ⟨#[]⟩⟩ (HT.out _ rfl (by first | rfl | exact HV.out | (simp [valB]; done) | (simp [valB]; omega)) (by first | exact Nat.zero_le _ | exact hcz | (simp; done)) (by unfold i64Ok; simp only; omega)) (by repeat (first | exact HB0.out | refine Below.setCell ?_ (by simp only; omega) _)))
        · have HV := Aside0.mk (show valB ⟨3, 0, t⟩ = true by simp [valB, hv]; omega)
          rw [hv] at HU
          clear hv
          go_wp2_with (go_at_call 89; (with_reducible refine (HU.out _).mono ?_); rintro e w1 ⟨rfl, hw1⟩; have hw2 := hw1.symm; clear hw1; subst hw2)
          exact bodyPost_ret (v := .agg #[.int .i64 3, .int .i64 0, .string t]) (by simp [results, Tryz.results70, go_sem, *]) rfl (GoodVTell.mk ⟨3, 0, t⟩ (HT.out _ rfl (by first | rfl | exact HV.out | (simp [valB]; done) | (simp [valB]; omega)) (by first | exact Nat.zero_le _ | exact hcz | (simp; done)) (by unfold i64Ok; simp only; omega)) (by repeat (first | exact HB0.out | refine Below.setCell ?_ (by simp only; omega) _)))
      · go_wp2
        exact bodyPost_ret (v := .agg #[.int .i64 4, .int .i64 0, .string t]) (by simp [results, Tryz.results70, go_sem, *]) rfl (GoodVTell.mk ⟨4, 0, t⟩ (HT.out _ rfl (by first | rfl | exact HV.out | (simp [valB]; done) | (simp [valB]; omega)) (by first | exact Nat.zero_le _ | exact hcz | (simp; done)) (by unfold i64Ok; simp only; omega)) (by repeat (first | exact HB0.out | refine Below.setCell ?_ (by simp only; omega) _)))
end Go.Proofs.YtmdofdaiepilbaaGreatDoor

/- The document's Key, Place and Put of rows: rows with one at its key. Conditions: the rows and columns read so; the keys lie in the columns. -/
namespace Go.Proofs.YtmdofdaiepilbaaGreatDoor
open Go.RowKit Go.Proofs.YtmdofdaiepilbaaGreatDoorW.PrintWords
set_option linter.unusedVariables false
set_option linter.unusedSimpArgs false
/-- a schema whose keys lie in its columns -/
def keyS10 (sc : Sch) : Prop := 0 ≤ sc.keys ∧ sc.keys ≤ (sc.cols.length : Int) ∧ sc.keys ≤ 1000000
def key10 (sc : Sch) (row : List Val) : ByteArray := (keyE sc.cols sc.keys row).1
theorem key10_calls (A : Option Addr) (c : Nat) (sc : Sch) (hk : keyS10 sc) (R : Option Addr) (cr : Nat) (row : List Val) (hcr : row.length ≤ cr) (w : World) (hC : kCol.C w A sc.cols.length sc.cols) (hR : kVal.C w R row.length row) (hrow : okRow row) :
    Calls Tryz.prog 53 #[.agg #[.slice A sc.cols.length c, .int .i64 sc.keys], .slice R row.length cr] w fun e w' => e = .returned (.string (key10 sc row)) ∧ Below w.heap.size w w' := by
  have HK := Aside0.mk (fun (W : World) (hb : Below w.heap.size w W) => key04_calls A c sc.cols sc.keys hk.1 hk.2.1 hk.2.2 R cr row hcr W (Kd.C_below hC hb) (Kd.C_below hR hb) hrow.txt hrow.num)
  clear hC hR hk hrow
  unfold key10
  generalize keyE sc.cols sc.keys row = ke at *
  obtain ⟨key, err⟩ := ke
  go_enter Tryz.func53, Tryz.ntmps53
  go_wp2_with (go_at_call 46; (with_reducible refine (HK.out _ (below_alloc (Below.refl _ _) _)).mono ?_); rintro e w1 ⟨rfl, hb1⟩)
  go_ret
  exact ⟨rfl, bmore (below_alloc (Below.refl _ _) _) hb1⟩
/-- where a row of a key stands, or would -/
def place10 (sc : Sch) (l : List (List Val)) (key : ByteArray) : Nat := (l.takeWhile (fun r => decide (ltS (key10 sc r) key))).length
def is10 (sc : Sch) (l : List (List Val)) (key : ByteArray) : Bool := decide (place10 sc l key < l.length) && decide (key10 sc (rdL l (place10 sc l key)) = key)
theorem rdL_get {α : Type} {l : List (List α)} {k : Nat} (h : k < l.length) : rdL l k = l[k] := by unfold rdL; simp [List.getD_eq_getElem?_getD, h]
theorem tw_len {α : Type} (p : α → Bool) : ∀ (l : List α) (k : Nat), k ≤ l.length → (∀ j (hj : j < l.length), j < k → p l[j] = true) → (∀ hk : k < l.length, p l[k] = false) → (l.takeWhile p).length = k
  | [], k, h, _, _ => by simp at h; simp [h]
  | x :: l, 0, _, _, h2 => by
    have := h2 (by simp)
    simp only [List.getElem_cons_zero] at this
    rw [List.takeWhile_cons, this]; rfl
  | x :: l, k + 1, h, h1, h2 => by
    have hx := h1 0 (by simp) (by omega)
    simp only [List.getElem_cons_zero] at hx
    rw [List.takeWhile_cons, hx]
    simp only [if_true, List.length_cons, Nat.add_right_cancel_iff]
    refine tw_len p l k (by simp at h; exact h) (fun j hj hjk => ?_) (fun hk => ?_)
    · have := h1 (j + 1) (by simp; omega) (by omega)
      simpa using this
    · have := h2 (by simp; omega)
      simpa using this
theorem place10_le (sc : Sch) (l : List (List Val)) (key : ByteArray) : place10 sc l key ≤ l.length := by unfold place10; exact (List.takeWhile_prefix _).length_le
set_option maxRecDepth 100000 in
set_option maxHeartbeats 8000000 in
theorem place10_calls (A : Option Addr) (c : Nat) (sc : Sch) (hk : keyS10 sc) (B : Option Addr) (cb : Nat) (l : List (List Val)) (hrows : ∀ r ∈ l, okRow r) (key : ByteArray) (w : World) (hC : kCol.C w A sc.cols.length sc.cols) (hL : kRow.C w B l.length l) :
    Calls Tryz.prog 69 #[.agg #[.slice A sc.cols.length c, .int .i64 sc.keys], .slice B l.length cb, .string key] w fun e w' => e = .returned (.tuple #[.int .i64 (place10 sc l key : Int), .bool (is10 sc l key)]) ∧ Below w.heap.size w w' := by
  have hlen : l.length ≤ 9223372036854775807 := hL.2.1
  have HC := Aside0.mk hC
  have HL := Aside0.mk hL
  have HRows := Aside0.mk hrows
  have HKy := Aside0.mk hk
  clear hC hL hrows hk
  have hW : Below w.heap.size w (w.alloc (.cells #[.slice A sc.cols.length c, .int .i64 sc.keys] 43)) := below_alloc (Below.refl _ _) _
  have h0 : (w.alloc (.cells #[.slice A sc.cols.length c, .int .i64 sc.keys] 43)).heap[w.heap.size]? = some (.cells #[.slice A sc.cols.length c, .int .i64 sc.keys] 43 (0, 0)) := heap_alloc_new _ _
  go_enter Tryz.func69, Tryz.ntmps69
  go_upto_region 1 with fail
  generalize w.alloc (.cells #[.slice A sc.cols.length c, .int .i64 sc.keys] 43) = W1 at *
  have H0 := Aside0.mk h0
  have HW := Aside0.mk hW
  clear h0 hW
  go_wp2
  go_loopw [8] (fun i wr => ∃ k : Nat, k ≤ l.length ∧ i = .int .i64 k ∧ (∀ j, j < k → ltS (key10 sc (rdL l j)) key) ∧ Below W1.heap.size W1 wr) (fun i _ => l.length - (intOf i).toNat)
  case atStart => exact ⟨0, by omega, rfl, fun j hj => by omega, Below.refl _ _⟩
  case round =>
    obtain ⟨k, hkl, rfl, hlt, hbel⟩ := hrel
    have a0 : wr.cell? ⟨w.heap.size, 0, none⟩ = some (.slice A sc.cols.length c) := pw_cell_below hbel (cell_of_row W1 _ 0 _ _ _ H0.out)
    have a1 : wr.cell? ⟨w.heap.size, 1, none⟩ = some (.int .i64 sc.keys) := pw_cell_below hbel (cell_of_row W1 _ 1 _ _ _ H0.out)
    have HLt := Aside0.mk hlt
    have HBel := Aside0.mk hbel
    have HWB := Aside0.mk (bmore HW.out hbel)
    clear hlt hbel
    by_cases hl : k < l.length
    case neg =>
      obtain rfl : k = l.length := by omega
      have hp : place10 sc l key = l.length := tw_len _ l l.length (Nat.le_refl _) (fun j hj hjk => by have := HLt.out j hjk; rw [rdL_get hj] at this; exact decide_eq_true this) (fun h => absurd h (Nat.lt_irrefl _))
      have HP := Aside0.mk hp
      have HI := Aside0.mk (show is10 sc l key = false by unfold is10; rw [hp, decide_eq_false (Nat.lt_irrefl _)]; rfl)
      clear hp
      go_wp2
      go_quiet (fail)
      go_wp2
      go_quiet (fail)
      go_wp2
      exact bodyPost_ret (v := .tuple #[.int .i64 l.length, .bool false]) (by simp [results, Tryz.results69, go_sem]) rfl ⟨by rw [HP.out, HI.out], bmore HWB.out (pw_below_drewN (pw_below_drewN (Below.refl _ _) _) _)⟩
    have hl' : ((k : Nat) : Int) < (l.length : Int) := by omega
    obtain ⟨bd, R0, r0, rfl, d0, hr0, hR0⟩ := at_slice (d := kVal) (e := 75) HL.out k hl
    replace d0 := pw_cell_below HWB.out d0
    have HKc := Aside0.mk (fun (W : World) (hb : Below wr.heap.size wr W) => key10_calls A c sc HKy.out R0 r0 (rdL l k) hr0 W (Kd.C_below HC.out (bmore HWB.out hb)) (Kd.C_below hR0 (bmore HWB.out hb)) (by rw [rdL_get hl]; exact HRows.out _ (List.getElem_mem hl)))
    have hle := less_dec (key10 sc (rdL l k)) key
    have heq := str_eqN (key10 sc (rdL l k)) key
    have hnext : ltS (key10 sc (rdL l k)) key → ∀ j, j < k + 1 → ltS (key10 sc (rdL l j)) key := fun h j hj => by
      rcases Nat.lt_or_ge j k with h2 | h2
      · exact HLt.out j h2
      · have : j = k := by omega
        rw [this]; exact h
    have hstop : ¬ ltS (key10 sc (rdL l k)) key → place10 sc l key = k ∧ is10 sc l key = decide (key10 sc (rdL l k) = key) := fun h => by
      have hp : place10 sc l key = k := tw_len _ l k (by omega) (fun j hj hjk => by have := HLt.out j hjk; rw [rdL_get hj] at this; exact decide_eq_true this) (fun hk2 => by rw [rdL_get hk2] at h; exact decide_eq_false h)
      refine ⟨hp, ?_⟩
      unfold is10
      rw [hp, decide_eq_true hl]; rfl
    have HNext := Aside0.mk (fun (h : decide (ltS (key10 sc (rdL l k)) key) = true) => hnext (of_decide_eq_true h))
    have HStop := Aside0.mk (fun (h : decide (ltS (key10 sc (rdL l k)) key) = false) => hstop (of_decide_eq_false h))
    clear hnext hstop hR0 hr0
    generalize key10 sc (rdL l k) = kk at *
    generalize decide (ltS kk key) = bb at *
    generalize decide (kk = key) = be at *
    generalize (rdL l k).length = rl at *
    go_wp2
    go_region_held3 (fun W => W.cell? ⟨w.heap.size, 0, none⟩ = some (.slice A sc.cols.length c) ∧ W.cell? ⟨w.heap.size, 1, none⟩ = some (.int .i64 sc.keys) ∧ W.cell? (bd.add k) = some (.slice R0 rl r0))
      (first | exact ⟨a0, a1, d0⟩ | exact HS.out | go_keep)
      (first | (go_at_call 53; (with_reducible refine (HKc.out _ ((Below.refl _ _).drew)).mono ?_); rintro e w3 ⟨rfl, hb1⟩; have hb3 := bmore ((Below.refl wr.heap.size wr).drew) hb1; have HB3 := Aside0.mk hb3; have HS := Aside0.mk (And.intro (pw_cell_below hb3 a0) (And.intro (pw_cell_below hb3 a1) (pw_cell_below hb3 d0))); clear hb1 hb3))
    cases bb
    case true =>
      have HX := Aside0.mk (HNext.out rfl)
      go_wp2
      go_roundw
      case rel => exact ⟨k + 1, by omega, by go_num, HX.out, bmore HBel.out HB3.out⟩
      case measure => simp [intOf]; omega
    have HX := Aside0.mk (HStop.out rfl)
    obtain ⟨p0, p1, p2⟩ := HS.out
    go_wp2
    go_region_held3 (fun W => W.cell? ⟨w.heap.size, 0, none⟩ = some (.slice A sc.cols.length c) ∧ W.cell? ⟨w.heap.size, 1, none⟩ = some (.int .i64 sc.keys) ∧ W.cell? (bd.add k) = some (.slice R0 rl r0))
      (first | exact ⟨p0, p1, p2⟩ | exact HS5.out | go_keep)
      (first | (go_at_call 53; (with_reducible refine (HKc.out _ (HB3.out.drew)).mono ?_); rintro e w5 ⟨rfl, hb1⟩; have hb3 := bmore ((Below.refl w3.heap.size w3).drew) hb1; have HB5 := Aside0.mk hb3; have HS5 := Aside0.mk (And.intro (pw_cell_below hb3 p0) (And.intro (pw_cell_below hb3 p1) (pw_cell_below hb3 p2))); clear hb1 hb3))
    go_wp2
    exact bodyPost_ret (v := .tuple #[.int .i64 k, .bool be]) (by simp [results, Tryz.results69, go_sem]) rfl ⟨by rw [HX.out.1, HX.out.2], bmore (bmore HWB.out HB3.out) HB5.out⟩
end Go.Proofs.YtmdofdaiepilbaaGreatDoor

/- The document's Row: a row that fits a schema. Conditions: the columns and values read so; the columns' kinds are those of columns. -/
namespace Go.Proofs.YtmdofdaiepilbaaGreatDoor
open Go.RowKit Go.Proofs.YtmdofdaiepilbaaGreatDoorW.PrintWords
set_option linter.unusedVariables false
set_option linter.unusedSimpArgs false
/-- a row that fits columns, and is short -/
structure FitRow (cols : List Col) (row : List Val) : Prop where
  len : row.length = cols.length
  fit : ∀ j, j < cols.length → fitB (rdCol cols j) (rdVal row j) = true
  txt : ∀ v ∈ row, v.text.size ≤ 40
  num : numOk row
theorem FitRow.ok {cols : List Col} {row : List Val} (h : FitRow cols row) (hl : cols.length ≤ 1000000) : okRow row := ⟨fun v hv => by have := h.txt v hv; omega, h.num, by rw [h.len]; exact hl⟩
/-- the first so many values of such a row -/
structure FitUp (cols : List Col) (row : List Val) (k : Nat) : Prop where
  len : row.length = k
  fit : ∀ j, j < k → fitB (rdCol cols j) (rdVal row j) = true
  txt : ∀ v ∈ row, v.text.size ≤ 40
  num : numOk row
theorem rdVal_app {row : List Val} {v : Val} {j : Nat} (h : j < row.length) : rdVal (row ++ [v]) j = rdVal row j := by
  unfold rdVal
  rw [List.getD_eq_getElem?_getD, List.getD_eq_getElem?_getD, List.getElem?_append_left h]
theorem rdVal_end {row : List Val} {v : Val} : rdVal (row ++ [v]) row.length = v := by
  unfold rdVal
  rw [List.getD_eq_getElem?_getD, List.getElem?_append_right (Nat.le_refl _), Nat.sub_self]
  rfl
theorem FitUp.more {cols : List Col} {row : List Val} {k : Nat} {v : Val} (h : FitUp cols row k) (hf : fitB (rdCol cols k) v = true) (ht : v.text.size ≤ 40) (hn : i64Ok v.num) : FitUp cols (row ++ [v]) (k + 1) := by
  refine ⟨by rw [List.length_append, h.len]; rfl, fun j hj => ?_, fun u hu => ?_, fun u hu => ?_⟩
  · rcases Nat.lt_or_ge j k with h1 | h1
    · rw [rdVal_app (by rw [h.len]; exact h1)]; exact h.fit j h1
    · obtain rfl : j = k := by omega
      have := rdVal_end (row := row) (v := v)
      rw [h.len] at this
      rw [this]; exact hf
  · rcases List.mem_append.1 hu with h1 | h1
    · exact h.txt u h1
    · rw [List.mem_singleton] at h1; subst h1; exact ht
  · rcases List.mem_append.1 hu with h1 | h1
    · exact h.num u h1
    · rw [List.mem_singleton] at h1; subst h1; exact hn
def RowTell (w : World) (cols : List Col) (e : Ending) (w' : World) : Prop := ∃ v row, e = .returned v ∧ FitRow cols row ∧ Own kVal 75 w' w.heap.size v row ∧ Below w.heap.size w w'
def kindsOk (cols : List Col) : Prop := ∀ c ∈ cols, 1 ≤ c.kind ∧ c.kind ≤ 4
set_option maxRecDepth 100000 in
set_option maxHeartbeats 8000000 in
theorem row04_calls (A : Option Addr) (c : Nat) (cols : List Col) (ks : Int) (hkd : kindsOk cols) (hcl : cols.length ≤ 100000) (R : Option Addr) (cr : Nat) (l : List Val) (w : World) (hC : kCol.C w A cols.length cols) (hR : kVal.C w R l.length l) (hn : numOk l) (htx : txtOk l) :
    Calls Tryz.prog 41 #[.agg #[.slice A cols.length c, .int .i64 ks], .slice R l.length cr] w (RowTell w cols) := by
  have hlen : l.length ≤ 9223372036854775807 := hR.2.1
  have HC := Aside0.mk hC
  have HR := Aside0.mk hR
  have HK := Aside0.mk hkd
  have HNm := Aside0.mk hn
  have HTx := Aside0.mk htx
  clear hC hR hkd hn htx
  have hW : Below w.heap.size w (w.alloc (.cells #[.slice A cols.length c, .int .i64 ks] 43)) := below_alloc (Below.refl _ _) _
  have h0 : (w.alloc (.cells #[.slice A cols.length c, .int .i64 ks] 43)).heap[w.heap.size]? = some (.cells #[.slice A cols.length c, .int .i64 ks] 43 (0, 0)) := heap_alloc_new _ _
  go_enter Tryz.func41, Tryz.ntmps41
  go_upto_region 1 with fail
  generalize w.alloc (.cells #[.slice A cols.length c, .int .i64 ks] 43) = W1 at *
  have H0 := Aside0.mk h0
  have HW := Aside0.mk hW
  clear h0 hW
  go_wp2
  go_loopw [5, 6] (fun v i wr => ∃ (k : Nat) (row : List Val), k ≤ cols.length ∧ i = .int .i64 k ∧ FitUp cols row k ∧ Own kVal 75 wr W1.heap.size v row ∧ Below W1.heap.size W1 wr) (fun _ i _ => cols.length - (intOf i).toNat)
  case atStart => exact ⟨0, [], by omega, rfl, ⟨rfl, fun j hj => by omega, fun v hv => absurd hv (by simp), fun v hv => absurd hv (by simp)⟩, Own.nil _ _ _ _, Below.refl _ _⟩
  case round =>
    obtain ⟨k, row, hk, rfl, hfu, hO, hbel⟩ := hrel
    have a0 : wr.cell? ⟨w.heap.size, 0, none⟩ = some (.slice A cols.length c) := pw_cell_below hbel (cell_of_row W1 _ 0 _ _ _ H0.out)
    have HF := Aside0.mk hfu
    have HO := Aside0.mk hO
    have HBel := Aside0.mk hbel
    have HWB := Aside0.mk (bmore HW.out hbel)
    clear hfu hO hbel
    by_cases hlt : k < cols.length
    case neg =>
      obtain rfl : k = cols.length := by omega
      go_wp2
      go_ret
      exact ⟨_, row, rfl, ⟨HF.out.len, HF.out.fit, HF.out.txt, HF.out.num⟩, Own.lower HO.out HW.out.size, HWB.out⟩
    obtain ⟨ad, rfl, d0, d1, d2⟩ := at_Col HC.out k hlt
    replace d0 := pw_cell_below HWB.out d0
    replace d1 := pw_cell_below HWB.out d1
    replace d2 := pw_cell_below HWB.out d2
    have hlt' : ((k : Nat) : Int) < (cols.length : Int) := by omega
    have hkk := HK.out _ (List.getElem_mem hlt)
    rw [← rdCol_get hlt] at hkk
    have hmore : ∀ v : Val, fitB (rdCol cols k) v = true → v.text.size ≤ 40 → i64Ok v.num → FitUp cols (row ++ [v]) (k + 1) := fun v => HF.out.more
    have hfb : ∀ v : Val, fitB (rdCol cols k) v = (valB v && (decide (v.kind = (rdCol cols k).kind) || (decide (v.kind = 0) && (rdCol cols k).none))) := fun v => rfl
    have HMore := Aside0.mk hmore
    have HFB := Aside0.mk hfb
    clear hmore hfb
    generalize rdCol cols k = x at *
    obtain ⟨xn, xk, xo⟩ := x
    simp only at *
    have hex : ∃ y : Val, i64Ok y.num ∧ y.text.size ≤ 9223372036854775000 ∧ ((k < l.length ∧ ∃ bd, R = some bd ∧ wr.cell? (bd.add (k * 3)) = some (.int .i64 y.kind) ∧ wr.cell? ⟨(bd.add (k * 3)).block, (bd.add (k * 3)).off + 1, none⟩ = some (.int .i64 y.num) ∧ wr.cell? ⟨(bd.add (k * 3)).block, (bd.add (k * 3)).off + 2, none⟩ = some (.string y.text)) ∨ (¬ k < l.length ∧ y = ⟨0, 0, ⟨#[]⟩⟩)) := by
      by_cases hl : k < l.length
      · obtain ⟨bd, hbd, f0, f1, f2⟩ := at_Val HR.out k hl
        exact ⟨rdVal l k, by rw [rdVal_get hl]; exact HNm.out _ (List.getElem_mem hl), txtOk_at HTx.out hl, .inl ⟨hl, bd, hbd, pw_cell_below HWB.out f0, pw_cell_below HWB.out f1, pw_cell_below HWB.out f2⟩⟩
      · exact ⟨⟨0, 0, ⟨#[]⟩⟩, by unfold i64Ok; simp only; omega, Nat.zero_le _, .inr ⟨hl, rfl⟩⟩
    have hwlt : w.heap.size < wr.heap.size := World.block_lt_of_cell? wr _ a0
    have hadlt := World.block_lt_of_cell? wr _ d0
    obtain ⟨⟨yk, yn, yt⟩, hyn, hyt, hy⟩ := hex
    simp only at hyn hyt hy
    rcases hy with ⟨hl, bd, rfl, f0, f1, f2⟩ | ⟨hl, hy⟩
    all_goals
      first
        | (have hbdlt := World.block_lt_of_cell? wr _ f0; skip)
        | (simp only [Val.mk.injEq] at hy; have HY := Aside0.mk hy; clear hy)
      go_upto_region 8 with fail
      try rw [show wr.alloc (.cells #[.int .i64 0, .int .i64 0, .string ⟨#[]⟩] 75) = wr.alloc (.cells #[.int .i64 yk, .int .i64 yn, .string yt] 75) from by rw [HY.out.1, HY.out.2.1, HY.out.2.2]]
      have hb2 : Below wr.heap.size wr (wr.alloc (.cells #[.int .i64 yk, .int .i64 yn, .string yt] 75)) := below_alloc (Below.refl _ _) _
      have h2 : (wr.alloc (.cells #[.int .i64 yk, .int .i64 yn, .string yt] 75)).heap[wr.heap.size]? = some (.cells #[.int .i64 yk, .int .i64 yn, .string yt] 75 (0, 0)) := heap_alloc_new _ _
      have hs2 : (wr.alloc (.cells #[.int .i64 yk, .int .i64 yn, .string yt] 75)).heap.size = wr.heap.size + 1 := by simp
      generalize wr.alloc (.cells #[.int .i64 yk, .int .i64 yn, .string yt] 75) = W2 at *
      replace a0 := pw_cell_below hb2 a0
      replace d0 := pw_cell_below hb2 d0
      replace d1 := pw_cell_below hb2 d1
      replace d2 := pw_cell_below hb2 d2
      have hlt2 : wr.heap.size < W2.heap.size := by omega
      have hlt3 : w.heap.size < W2.heap.size := by omega
      have hlt4 := World.block_lt_of_cell? W2 _ d0
      clear hs2
      go_upto_region 9 with fail
      have hb3 : Below W2.heap.size W2 (W2.alloc (.cells #[.string xn, .int .i64 xk, .bool xo] 51)) := below_alloc (Below.refl _ _) _
      have h3 : (W2.alloc (.cells #[.string xn, .int .i64 xk, .bool xo] 51)).heap[W2.heap.size]? = some (.cells #[.string xn, .int .i64 xk, .bool xo] 51 (0, 0)) := heap_alloc_new _ _
      generalize W2.alloc (.cells #[.string xn, .int .i64 xk, .bool xo] 51) = W3 at *
      replace h2 := (hb3.block _ hlt2).trans h2
      have c0 : W3.cell? ⟨W2.heap.size, 1, none⟩ = some (.int .i64 xk) := cell_of_row _ _ 1 _ _ _ h3
      have c2 : W3.cell? ⟨W2.heap.size, 2, none⟩ = some (.bool xo) := cell_of_row _ _ 2 _ _ _ h3
      have b0 : W3.cell? ⟨wr.heap.size, 0, none⟩ = some (.int .i64 yk) := cell_of_row _ _ 0 _ _ _ h2
      have b1 : W3.cell? ⟨wr.heap.size, 1, none⟩ = some (.int .i64 yn) := cell_of_row _ _ 1 _ _ _ h2
      have b2 : W3.cell? ⟨wr.heap.size, 2, none⟩ = some (.string yt) := cell_of_row _ _ 2 _ _ _ h2
      have z0 := frozen_of_row W3 wr.heap.size 0 _ _ h2
      have HB3 := Aside0.mk (bmore hb2 hb3)
      have HO3 := Aside0.mk (HO.out.below HB3.out)
      have H2 := Aside0.mk h2
      clear h2 h3 hb2 hb3 a0 d0 d1 d2 hlt3 hlt4 hwlt hadlt
      by_cases hz : xo = true ∧ yk.tmod 3 = 0
      case pos =>
        obtain ⟨rfl, hz⟩ := hz
        have hq : (yk.tmod 3 == 0) = true := by rw [hz]; rfl
        have HN := Aside0.mk (HMore.out ⟨0, 0, ⟨#[]⟩⟩ (by rw [HFB.out]; simp [valB]; rfl) (Nat.zero_le _) (by unfold i64Ok; simp only; omega))
        clear hz
        go_wp2_with (at_builtin; refine pushVal (w0 := W1) (W := W3) W1.heap.size rfl (.tmp 38) (.tmp 40) rfl u5 row ⟨0, 0, ⟨#[]⟩⟩ [.int .i64 0, .int .i64 0, .string ⟨#[]⟩] (fun _ => False) rfl rfl (fk_Val _ _ ⟨0, 0, ⟨#[]⟩⟩) (fun k h => h.elim) HO3.out (HBel.out.trans (HB3.out.mono HBel.out.size)) (Nat.le_trans HBel.out.size HB3.out.size) (by rw [HF.out.len]; omega) ?_; intro v5 w5 hN5 hb5)
        go_roundw
        case rel => exact ⟨k + 1, _, by omega, by go_num, HN.out, hN5, hb5⟩
        case measure => simp [intOf]; omega
      have hq : (xo = false) ∨ (xo = true ∧ (yk.tmod 3 == 0) = false) := by
        cases xo
        · exact .inl rfl
        · exact .inr ⟨rfl, by simpa using fun h => hz ⟨rfl, h⟩⟩
      clear hz
      rcases hq with rfl | ⟨rfl, hq⟩
      all_goals
        go_upto_region 12 with fail
        have h4 := heap_setCell_same _ wr.heap.size 0 _ _ (.int .i64 xk) H2.out
        have hb4 : Below wr.heap.size wr (W3.setCell ⟨wr.heap.size, 0, none⟩ (.int .i64 xk)) := HB3.out.setCell (p := ⟨wr.heap.size, 0, none⟩) (Nat.le_refl _) _
        generalize W3.setCell ⟨wr.heap.size, 0, none⟩ (.int .i64 xk) = W4 at *
        have e0 : W4.cell? ⟨wr.heap.size, 0, none⟩ = some (.int .i64 xk) := cell_of_row _ _ 0 _ _ _ h4
        have e1 : W4.cell? ⟨wr.heap.size, 1, none⟩ = some (.int .i64 yn) := cell_of_row _ _ 1 _ _ _ h4
        have e2 : W4.cell? ⟨wr.heap.size, 2, none⟩ = some (.string yt) := cell_of_row _ _ 2 _ _ _ h4
        have HG := Aside0.mk (good03_calls xk yn yt (by unfold i64Ok; omega) hyn hyt W4)
        have HB4 := Aside0.mk hb4
        have HO4 := Aside0.mk (HO.out.below hb4)
        have HXK := Aside0.mk hkk
        clear c0 c2 b0 b1 b2 z0 h4 hb4
        go_wp2_with (first
          | (go_at_call 70; (with_reducible refine (HG.out).mono ?_); rintro e w5 ⟨v5, rfl, hv5, hb5⟩; have HV5 := Aside0.mk hv5; have HB5 := Aside0.mk (bmore HB4.out hb5); have HO5 := Aside0.mk (HO4.out.below hb5); clear hv5 hb5)
          | (at_builtin; refine pushVal (w0 := W1) (W := w5) W1.heap.size rfl (.tmp 45) (.tmp 48) rfl u5 row v5 [.int .i64 v5.kind, .int .i64 v5.num, .string v5.text] (fun _ => False) rfl rfl (fk_Val _ _ v5) (fun k h => h.elim) HO5.out (HBel.out.trans (HB5.out.mono HBel.out.size)) (Nat.le_trans HBel.out.size HB5.out.size) (by rw [HF.out.len]; omega) ?_; intro v6 w6 hN6 hb6))
        go_roundw
        case rel => exact ⟨k + 1, _, by omega, by go_num, HMore.out v5 (by rw [HFB.out, HV5.out.1, HV5.out.2.2.2 (by have := HXK.out; omega) (by have := HXK.out; omega)]; simp) HV5.out.2.1 HV5.out.2.2.1, hN6, hb6⟩
        case measure => simp [intOf]; omega
end Go.Proofs.YtmdofdaiepilbaaGreatDoor

/- The document's Put of rows: rows with one at its key. Conditions: the rows and columns read so; the keys lie in the columns; few rows. -/
namespace Go.Proofs.YtmdofdaiepilbaaGreatDoor
open Go.RowKit Go.Proofs.YtmdofdaiepilbaaGreatDoorW.PrintWords
set_option linter.unusedVariables false
set_option linter.unusedSimpArgs false
def put10 (sc : Sch) (l : List (List Val)) (row : List Val) : List (List Val) :=
  l.take (place10 sc l (key10 sc row)) ++ [row] ++ l.drop (place10 sc l (key10 sc row) + (if is10 sc l (key10 sc row) then 1 else 0))
theorem put10_mem {sc : Sch} {l : List (List Val)} {row r : List Val} (h : r ∈ put10 sc l row) : r ∈ l ∨ r = row := by
  unfold put10 at h
  rw [List.append_assoc, List.mem_append, List.singleton_append, List.mem_cons] at h
  rcases h with h | h | h
  · exact .inl (List.mem_of_mem_take h)
  · exact .inr h
  · exact .inl (List.mem_of_mem_drop h)
theorem put10_len (sc : Sch) (l : List (List Val)) (row : List Val) : (put10 sc l row).length ≤ l.length + 1 := by
  unfold put10
  have := place10_le sc l (key10 sc row)
  simp only [List.length_append, List.length_take, List.length_drop, List.length_singleton]
  omega
set_option maxRecDepth 100000 in
set_option maxHeartbeats 8000000 in
theorem put10_calls (A : Option Addr) (c : Nat) (sc : Sch) (hk : keyS10 sc) (B : Option Addr) (cb : Nat) (l : List (List Val)) (hrows : ∀ r ∈ l, okRow r) (hlen : l.length ≤ 100000) (hcb : l.length ≤ cb) (R : Option Addr) (cr : Nat) (row : List Val) (hrow : okRow row) (hcr : row.length ≤ cr) (w : World) (hC : kCol.C w A sc.cols.length sc.cols) (hL : kRow.C w B l.length l) (hR : kVal.C w R row.length row) :
    Calls Tryz.prog 40 #[.agg #[.slice A sc.cols.length c, .int .i64 sc.keys], .slice B l.length cb, .slice R row.length cr] w fun e w' => ∃ v, e = .returned v ∧ Own kRow 49 w' w.heap.size v (put10 sc l row) ∧ Below w.heap.size w w' := by
  have HKy := Aside0.mk (fun (W : World) (hb : Below w.heap.size w W) => key10_calls A c sc hk R cr row hcr W (Kd.C_below hC hb) (Kd.C_below hR hb) hrow)
  have HPl := Aside0.mk (fun (W : World) (hb : Below w.heap.size w W) => place10_calls A c sc hk B cb l hrows (key10 sc row) W (Kd.C_below hC hb) (Kd.C_below hL hb))
  have HL := Aside0.mk hL
  have HR := Aside0.mk hR
  have hple := place10_le sc l (key10 sc row)
  have hpi : is10 sc l (key10 sc row) = true → place10 sc l (key10 sc row) < l.length := fun h => by unfold is10 at h; simp only [Bool.and_eq_true, decide_eq_true_eq] at h; exact h.1
  have hput : put10 sc l row = l.take (place10 sc l (key10 sc row)) ++ [row] ++ l.drop (place10 sc l (key10 sc row) + (if is10 sc l (key10 sc row) then 1 else 0)) := rfl
  clear hC hL hR hk hrows hrow
  generalize put10 sc l row = P at *
  generalize is10 sc l (key10 sc row) = bi at *
  generalize place10 sc l (key10 sc row) = p at *
  generalize key10 sc row = ky at *
  have hW : Below w.heap.size w (w.alloc (.cells #[.slice A sc.cols.length c, .int .i64 sc.keys] 43)) := below_alloc (Below.refl _ _) _
  have h0 : (w.alloc (.cells #[.slice A sc.cols.length c, .int .i64 sc.keys] 43)).heap[w.heap.size]? = some (.cells #[.slice A sc.cols.length c, .int .i64 sc.keys] 43 (0, 0)) := heap_alloc_new _ _
  go_enter Tryz.func40, Tryz.ntmps40
  go_upto_region 1 with fail
  generalize w.alloc (.cells #[.slice A sc.cols.length c, .int .i64 sc.keys] 43) = W1 at *
  have a0 : W1.cell? ⟨w.heap.size, 0, none⟩ = some (.slice A sc.cols.length c) := cell_of_row W1 _ 0 _ _ _ h0
  have a1 : W1.cell? ⟨w.heap.size, 1, none⟩ = some (.int .i64 sc.keys) := cell_of_row W1 _ 1 _ _ _ h0
  have HW := Aside0.mk hW
  clear h0 hW
  go_region_held3 (fun W => W.cell? ⟨w.heap.size, 0, none⟩ = some (.slice A sc.cols.length c) ∧ W.cell? ⟨w.heap.size, 1, none⟩ = some (.int .i64 sc.keys))
    (first | exact ⟨a0, a1⟩ | exact HS4.out | exact HS3.out | go_keep)
    (first
      | (go_at_call 53; (with_reducible refine (HKy.out _ (HW.out.drew)).mono ?_); rintro e w3 ⟨rfl, hb1⟩; have hb3 := bmore ((Below.refl W1.heap.size W1).drew) hb1; have HB3 := Aside0.mk (bmore HW.out hb3); have HS3 := Aside0.mk (And.intro (pw_cell_below hb3 a0) (pw_cell_below hb3 a1)); have HBk := Aside0.mk hb3; clear hb1 hb3)
      | (go_at_call 69; (with_reducible refine (HPl.out _ HB3.out).mono ?_); rintro e w4 ⟨rfl, hb1⟩; have HB4 := Aside0.mk (bmore HB3.out hb1); have HS4 := Aside0.mk (And.intro (pw_cell_below (bmore HBk.out hb1) a0) (pw_cell_below (bmore HBk.out hb1) a1)); clear hb1))
  have s1 := head_Row B l.length cb p (by omega)
  have HX := Aside0.mk (Kd.C_F heap_Row (Kd.C_below (take_C HL.out hple) HB4.out))
  have HRF := Aside0.mk (Kd.C_F heap_Val (Kd.C_below HR.out HB4.out))
  have hxl : (l.take p).length = p := by rw [List.length_take]; omega
  have hy : ∃ (q : Nat) (Y : List (List Val)) (A' : Option Addr), q ≤ l.length ∧ q = p + (if bi then 1 else 0) ∧ P = l.take p ++ [row] ++ Y ∧ Kd.F kRow w4 (fun k => k < w4.heap.size) A' (l.length - q) Y ∧ (∀ W : World, (Instr.slice 63 (.slice B l.length cb) (some (.int .i64 q)) none none).run Tryz.prog W = .ok (.slice A' (l.length - q) (cb - q)) W) := by
    have hq : p + (if bi then 1 else 0) ≤ l.length := by
      cases bi
      · simpa using hple
      · have := hpi rfl; simp only [if_true]; omega
    refine ⟨p + (if bi then 1 else 0), l.drop (p + (if bi then 1 else 0)), tailA B cb (p + (if bi then 1 else 0)) 1, hq, rfl, hput, ?_, tail_Row B l.length cb _ hq hcb⟩
    exact Kd.C_F heap_Row (Kd.C_below (drop_C HL.out hq hcb) HB4.out)
  obtain ⟨q, Y, A', hq, hqp, hP, hYF, s2⟩ := hy
  clear hput hpi
  generalize l.take p = X at *
  obtain ⟨X2, hX2⟩ : ∃ X2, X ++ [row] = X2 := ⟨_, rfl⟩
  have hx2l : X2.length = p + 1 := by rw [← hX2]; simp; omega
  rw [hX2] at hP
  have HX2 := Aside0.mk hX2
  have HXL := Aside0.mk hxl
  have HX2L := Aside0.mk hx2l
  have HY := Aside0.mk hYF
  have HP := Aside0.mk hP
  clear hX2 hxl hx2l hYF hP
  cases bi
  all_goals
    simp only [if_true, Bool.false_eq_true, if_false, Nat.add_zero] at hqp
    replace hqp := hqp.symm
    subst hqp
    try rw [show ((p + 1 : Nat) : Int) = (p : Int) + 1 from by omega] at s2
    go_wp2_with (first
      | (at_builtin; refine pushAllRow (w0 := w4) (W := w4) w4.heap.size rfl (.tmp 19) (.tmp 22) rfl (.slice none 0 0) [] X B p cb (fun k => k < w4.heap.size) rfl rfl HX.out (fun k _ => by simp [Value.ownBlock]) (Own.nil _ _ _ _) (Below.refl _ _) (Nat.le_refl _) (by simp; omega) ?_; intro v5 w5 hN1 hb2; rw [List.nil_append] at hN1; obtain ⟨A1, c1, rfl, _, _⟩ := hN1.slice; have HN1 := Aside0.mk hN1; have HB5 := Aside0.mk hb2; clear hN1 hb2)
      | (at_builtin; refine pushRow (w0 := w4) (W := w5) w4.heap.size rfl (.tmp 24) (.tmp 26) rfl (.slice A1 X.length c1) X row [.slice R row.length cr] (fun k => k < w4.heap.size) rfl rfl (fk_Row hcr (Kd.F_step HRF.out (fun k hk _ => HB5.out.block k hk))) (HN1.out.lt (fun k hk => hk)) HN1.out HB5.out HB5.out.size (by rw [HXL.out]; omega) ?_; intro v6 w6 hN2 hb3; rw [HX2.out] at hN2; obtain ⟨A2, c2, rfl, _, _⟩ := hN2.slice; have HN2 := Aside0.mk hN2; have HB6 := Aside0.mk hb3; clear hN2 hb3)
      | (at_builtin; refine pushAllRow (w0 := w4) (W := w6) w4.heap.size rfl (.tmp 31) (.tmp 34) rfl (.slice A2 X2.length c2) X2 Y A' _ _ (fun k => k < w4.heap.size) rfl rfl (Kd.F_step HY.out (fun k hk _ => HB6.out.block k hk)) (HN2.out.lt (fun k hk => hk)) HN2.out HB6.out HB6.out.size (by rw [HX2L.out]; omega) ?_; intro v7 w7 hN4 hb4))
    go_ret
    exact ⟨_, rfl, by rw [HP.out]; exact Own.lower hN4 HB4.out.size, bmore HB4.out hb4⟩
end Go.Proofs.YtmdofdaiepilbaaGreatDoor

/- The document's Rows: rows of a schema in the order of their keys. Conditions: the columns and values read so; the keys lie in the columns, whose kinds are those of columns. -/
namespace Go.Proofs.YtmdofdaiepilbaaGreatDoor
open Go.RowKit Go.Proofs.YtmdofdaiepilbaaGreatDoorW.PrintWords
set_option linter.unusedVariables false
set_option linter.unusedSimpArgs false
/-- rows are answered that fit the schema -/
def RowsTell (w : World) (cols : List Col) (m : Nat) (e : Ending) (w' : World) : Prop := ∃ A c rows, e = .returned (.slice A rows.length c) ∧ rows.length ≤ c ∧ rows.length ≤ m ∧ (∀ r ∈ rows, FitRow cols r) ∧ kRow.C w' A rows.length rows ∧ Below w.heap.size w w'
set_option maxRecDepth 100000 in
set_option maxHeartbeats 8000000 in
theorem rows13_calls (A : Option Addr) (c : Nat) (sc : Sch) (hk : keyS10 sc) (hkd : kindsOk sc.cols) (hcl : sc.cols.length ≤ 100000) (B : Option Addr) (cb : Nat) (l : List (List Val)) (hl : ∀ r ∈ l, numOk r ∧ txtOk r) (m : Nat) (hm : m ≤ 1000) (w : World) (hC : kCol.C w A sc.cols.length sc.cols) (hL : kRow.C w B l.length l) :
    Calls Tryz.prog 18 #[.agg #[.slice A sc.cols.length c, .int .i64 sc.keys], .slice B l.length cb, .int .i64 m] w (RowsTell w sc.cols m) := by
  have hlen : l.length ≤ 9223372036854775807 := hL.2.1
  have HC := Aside0.mk hC
  have HL := Aside0.mk hL
  have HRows := Aside0.mk hl
  have HKy := Aside0.mk hk
  have HKd := Aside0.mk hkd
  clear hC hL hl hk hkd
  have hW : Below w.heap.size w (w.alloc (.cells #[.slice A sc.cols.length c, .int .i64 sc.keys] 43)) := below_alloc (Below.refl _ _) _
  have h0 : (w.alloc (.cells #[.slice A sc.cols.length c, .int .i64 sc.keys] 43)).heap[w.heap.size]? = some (.cells #[.slice A sc.cols.length c, .int .i64 sc.keys] 43 (0, 0)) := heap_alloc_new _ _
  go_enter Tryz.func18, Tryz.ntmps18
  go_upto_region 1 with fail
  generalize w.alloc (.cells #[.slice A sc.cols.length c, .int .i64 sc.keys] 43) = W1 at *
  have H0 := Aside0.mk h0
  have HW := Aside0.mk hW
  clear h0 hW
  go_wp2
  go_loopw [7, 8] (fun v i wr => ∃ (k : Nat) (rows : List (List Val)) (D : Option Addr) (d : Nat), k ≤ l.length ∧ k ≤ m ∧ i = .int .i64 k ∧ v = .slice D rows.length d ∧ rows.length ≤ d ∧ rows.length ≤ k ∧ (∀ r ∈ rows, FitRow sc.cols r) ∧ kRow.C wr D rows.length rows ∧ Below W1.heap.size W1 wr) (fun _ i _ => l.length - (intOf i).toNat)
  case atStart => exact ⟨0, [], none, 0, by omega, by omega, rfl, rfl, by simp, by simp, fun r hr => absurd hr (by simp), Kd.C_nil _ _, Below.refl _ _⟩
  case round =>
    obtain ⟨k, rows, D, d, hkl, hkm, rfl, rfl, hrd, hrk, hfit, hCr, hbel⟩ := hrel
    have a0 : wr.cell? ⟨w.heap.size, 0, none⟩ = some (.slice A sc.cols.length c) := pw_cell_below hbel (cell_of_row W1 _ 0 _ _ _ H0.out)
    have a1 : wr.cell? ⟨w.heap.size, 1, none⟩ = some (.int .i64 sc.keys) := pw_cell_below hbel (cell_of_row W1 _ 1 _ _ _ H0.out)
    have HFit := Aside0.mk hfit
    have HBel := Aside0.mk hbel
    have HWB := Aside0.mk (bmore HW.out hbel)
    have HCr := Aside0.mk hCr
    clear hfit hbel hCr
    by_cases hlt : k < l.length ∧ k < m
    case neg =>
      have HT : RowsTell w sc.cols m (.returned (.slice D rows.length d)) wr := ⟨D, d, rows, rfl, hrd, by omega, HFit.out, HCr.out, HWB.out⟩
      have HTT := Aside0.mk HT
      clear HT
      rcases (show k = l.length ∨ (k < l.length ∧ k = m) by omega) with h | ⟨h, h4⟩
      · subst h
        go_wp2
        go_ret
        exact HTT.out
      · subst h4
        go_wp2
        go_ret
        exact HTT.out
    obtain ⟨hl1, hl2⟩ := hlt
    have hl1' : ((k : Nat) : Int) < (l.length : Int) := by omega
    have hl2' : ((k : Nat) : Int) < (m : Int) := by omega
    obtain ⟨bd, R0, r0, rfl, d0, hr0, hR0⟩ := at_slice (d := kVal) (e := 75) HL.out k hl1
    replace d0 := pw_cell_below HWB.out d0
    have hnt := HRows.out _ (List.getElem_mem hl1)
    rw [← rdL_get hl1] at hnt
    have HRow := Aside0.mk (fun (W : World) (hb : Below w.heap.size w W) => row04_calls A c sc.cols sc.keys HKd.out hcl R0 r0 (rdL l k) W (Kd.C_below HC.out hb) (Kd.C_below hR0 hb) hnt.1 hnt.2)
    have HPut := Aside0.mk (fun (W : World) (hb : Below wr.heap.size wr W) (R : Option Addr) (cr : Nat) (row : List Val) (hrow : FitRow sc.cols row) (hcr : row.length ≤ cr) (hR : kVal.C W R row.length row) => put10_calls A c sc HKy.out D d rows (fun r hr => (HFit.out r hr).ok (by omega)) (by omega) hrd R cr row (hrow.ok (by omega)) hcr W (Kd.C_below HC.out (bmore HWB.out hb)) (Kd.C_below HCr.out hb) hR)
    clear hnt hR0 hr0
    generalize (rdL l k).length = rl at *
    go_wp2
    go_region_held3 (fun W => W.cell? ⟨w.heap.size, 0, none⟩ = some (.slice A sc.cols.length c) ∧ W.cell? ⟨w.heap.size, 1, none⟩ = some (.int .i64 sc.keys) ∧ W.cell? (bd.add k) = some (.slice R0 rl r0))
      (first | exact ⟨a0, a1, d0⟩ | exact HS4.out | exact HS3.out | go_keep)
      (first
        | (go_at_call 41; (with_reducible refine (HRow.out _ (HWB.out.drew)).mono ?_); rintro e w3 ⟨v3, row, rfl, hfr, hO3, hb1⟩; obtain ⟨A3, c3, rfl, hl3, hC3⟩ := hO3.slice; have hb3 := bmore ((Below.refl wr.heap.size wr).drew) hb1; have HB3 := Aside0.mk hb3; have HS3 := Aside0.mk (And.intro (pw_cell_below hb3 a0) (And.intro (pw_cell_below hb3 a1) (pw_cell_below hb3 d0))); have HFr := Aside0.mk hfr; have HC3 := Aside0.mk (And.intro hl3 hC3); clear hb1 hb3 hO3 hfr hl3 hC3)
        | (go_at_call 40; (with_reducible refine (HPut.out _ HB3.out _ _ _ HFr.out HC3.out.1 HC3.out.2).mono ?_); rintro e w4 ⟨v4, rfl, hO4, hb4⟩; obtain ⟨A4, c4, rfl, hl4, hC4⟩ := hO4.slice; have HB4 := Aside0.mk (bmore HB3.out hb4); have HS4 := Aside0.mk (And.intro (pw_cell_below hb4 HS3.out.1) (And.intro (pw_cell_below hb4 HS3.out.2.1) (pw_cell_below hb4 HS3.out.2.2))); have HC4 := Aside0.mk (And.intro hl4 hC4); clear hb4 hO4 hl4 hC4))
    go_wp2
    go_roundw
    case rel => exact ⟨k + 1, _, A4, c4, by omega, by omega, by go_num, rfl, HC4.out.1, by have := put10_len sc rows row; omega, fun r hr => (put10_mem hr).elim (HFit.out r) (fun h => h ▸ HFr.out), HC4.out.2, bmore HBel.out HB4.out⟩
    case measure => simp [intOf]; omega
end Go.Proofs.YtmdofdaiepilbaaGreatDoor
