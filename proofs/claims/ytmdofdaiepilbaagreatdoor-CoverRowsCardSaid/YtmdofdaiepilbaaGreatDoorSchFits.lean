/- Whether values stand in columns: schema.fits, begins, Fits and the document's stands, Fits. Conditions: rows and columns read so; the tables of unicode/utf8; the texts' lengths. -/
import Derived.Test.YtmdofdaiepilbaaGreatDoorValMay
import Derived.Test.YtmdofdaiepilbaaGreatDoorGName
import Derived.Deep.RegionHeld3
namespace Go.Proofs.YtmdofdaiepilbaaGreatDoor
open Go.RowKit Go.Proofs.YtmdofdaiepilbaaGreatDoorW.PrintWords Go.Proofs.YtmdofdaiepilbaaGreatDoorW.PrintMore
set_option linter.unusedVariables false
set_option linter.unusedSimpArgs false
def fitB (c : Col) (v : Val) : Bool := valB v && (decide (v.kind = c.kind) || (decide (v.kind = 0) && c.none))
def txtOk (l : List Val) : Prop := ∀ v ∈ l, v.text.size ≤ 9223372036854775000
theorem rdVal_get {l : List Val} {k : Nat} (h : k < l.length) : rdVal l k = l[k] := by unfold rdVal; simp [List.getD_eq_getElem?_getD, h]
theorem txtOk_at {l : List Val} (h : txtOk l) {k : Nat} (hk : k < l.length) : (rdVal l k).text.size ≤ 9223372036854775000 := by rw [rdVal_get hk]; exact h _ (List.getElem_mem hk)
def beginB (cols : List Col) (row : List Val) (n : Int) : Bool := decide (n ≤ (row.length : Int)) && (List.range n.toNat).all (fun i => fitB (rdCol cols i) (rdVal row i))
def fitsB (cols : List Col) (row : List Val) : Bool := decide (row.length = cols.length) && (List.range row.length).all (fun i => fitB (rdCol cols i) (rdVal row i))
theorem range_bad {n k : Nat} {p : Nat → Bool} (h : k < n) (hb : p k = false) : (List.range n).all p = false := by
  rw [List.all_eq_false]
  exact ⟨k, List.mem_range.2 h, by simp [hb]⟩
theorem range_good {n : Nat} {p : Nat → Bool} (h : ∀ j, j < n → p j = true) : (List.range n).all p = true := by
  rw [List.all_eq_true]
  exact fun j hj => h j (List.mem_range.1 hj)
theorem heap_alloc2 (w : World) (o1 o2 : Obj) : ((w.alloc o1).alloc o2).heap[w.heap.size + 1]? = some o2 := by have := heap_alloc_new (w.alloc o1) o2; rwa [World.size_alloc] at this
set_option maxRecDepth 100000 in
set_option maxHeartbeats 8000000 in
theorem fits_calls (nm : ByteArray) (ki : Int) (no : Bool) (k n : Int) (s : ByteArray) (w : World) (hT : TabsU w) :
    Calls Tryz.prog 93 #[.agg #[.string nm, .int .i64 ki, .bool no], .agg #[.int .i64 k, .int .i64 n, .string s]] w fun e w' => e = .returned (.bool (fitB ⟨nm, ki, no⟩ ⟨k, n, s⟩)) ∧ Below w.heap.size w w' := by
  have HB := Aside0.mk (show Below w.heap.size w ((w.alloc (.cells #[.string nm, .int .i64 ki, .bool no] 51)).alloc (.cells #[.int .i64 k, .int .i64 n, .string s] 75)) from below_alloc (below_alloc (Below.refl _ _) _) _)
  have HX := Aside0.mk (fun (W : World) (hb : Below ((w.alloc (.cells #[.string nm, .int .i64 ki, .bool no] 51)).alloc (.cells #[.int .i64 k, .int .i64 n, .string s] 75)).heap.size ((w.alloc (.cells #[.string nm, .int .i64 ki, .bool no] 51)).alloc (.cells #[.int .i64 k, .int .i64 n, .string s] 75)) W) =>
    (show W.cell? ⟨w.heap.size + 1, 0, none⟩ = some (.int .i64 k) ∧ W.cell? ⟨w.heap.size, 1, none⟩ = some (.int .i64 ki) ∧ W.cell? ⟨w.heap.size, 2, none⟩ = some (.bool no) from
      ⟨pw_cell_below hb (cell_of_row _ _ 0 _ _ _ (heap_alloc2 _ _ _)), pw_cell_below hb (pw_cell_below (below_alloc (Below.refl _ _) _) (cell_of_row _ _ 1 _ _ _ (heap_alloc_new _ _))), pw_cell_below hb (pw_cell_below (below_alloc (Below.refl _ _) _) (cell_of_row _ _ 2 _ _ _ (heap_alloc_new _ _)))⟩))
  have HV := Aside0.mk (valMay_calls k n s _ (hT.below HB.out))
  have HF := Aside0.mk (show fitB ⟨nm, ki, no⟩ ⟨k, n, s⟩ = (valB ⟨k, n, s⟩ && (decide (k = ki) || (decide (k = 0) && no))) from rfl)
  clear hT
  generalize valB ⟨k, n, s⟩ = bv at *
  cases bv
  · go_enter Tryz.func93, Tryz.ntmps93
    go_wp2_with (go_at_call 94; (with_reducible refine (HV.out).mono ?_); rintro e w1 ⟨rfl, hb1⟩; obtain ⟨c0, c1, c2⟩ := HX.out _ hb1; have HB1 := Aside0.mk hb1; clear hb1)
    go_ret
    exact ⟨retB HF.out, bmore HB.out HB1.out⟩
  · have h1 := beq_dec k ki
    have h2 := beq_dec k 0
    generalize decide (k = ki) = b1 at *
    generalize decide (k = 0) = b2 at *
    cases b1 <;> cases b2
    all_goals
      go_enter Tryz.func93, Tryz.ntmps93
      go_wp2_with (go_at_call 94; (with_reducible refine (HV.out).mono ?_); rintro e w1 ⟨rfl, hb1⟩; obtain ⟨c0, c1, c2⟩ := HX.out _ hb1; have HB1 := Aside0.mk hb1; clear hb1)
      go_ret
      exact ⟨retB HF.out, bmore HB.out HB1.out⟩
set_option maxRecDepth 100000 in
set_option maxHeartbeats 8000000 in
theorem stands_calls (nm : ByteArray) (ki : Int) (no : Bool) (k n : Int) (s : ByteArray) (hs : s.size ≤ 9223372036854775000) (w : World) :
    Calls Tryz.prog 72 #[.agg #[.string nm, .int .i64 ki, .bool no], .agg #[.int .i64 k, .int .i64 n, .string s]] w fun e w' => e = .returned (.bool (fitB ⟨nm, ki, no⟩ ⟨k, n, s⟩)) ∧ Below w.heap.size w w' := by
  have HB := Aside0.mk (show Below w.heap.size w ((w.alloc (.cells #[.string nm, .int .i64 ki, .bool no] 51)).alloc (.cells #[.int .i64 k, .int .i64 n, .string s] 75)) from below_alloc (below_alloc (Below.refl _ _) _) _)
  have HX := Aside0.mk (fun (W : World) (hb : Below ((w.alloc (.cells #[.string nm, .int .i64 ki, .bool no] 51)).alloc (.cells #[.int .i64 k, .int .i64 n, .string s] 75)).heap.size ((w.alloc (.cells #[.string nm, .int .i64 ki, .bool no] 51)).alloc (.cells #[.int .i64 k, .int .i64 n, .string s] 75)) W) =>
    (show W.cell? ⟨w.heap.size + 1, 0, none⟩ = some (.int .i64 k) ∧ W.cell? ⟨w.heap.size, 1, none⟩ = some (.int .i64 ki) ∧ W.cell? ⟨w.heap.size, 2, none⟩ = some (.bool no) from
      ⟨pw_cell_below hb (cell_of_row _ _ 0 _ _ _ (heap_alloc2 _ _ _)), pw_cell_below hb (pw_cell_below (below_alloc (Below.refl _ _) _) (cell_of_row _ _ 1 _ _ _ (heap_alloc_new _ _))), pw_cell_below hb (pw_cell_below (below_alloc (Below.refl _ _) _) (cell_of_row _ _ 2 _ _ _ (heap_alloc_new _ _)))⟩))
  have HV := Aside0.mk (fun W => valMay03_calls k n s hs W)
  have HF := Aside0.mk (show fitB ⟨nm, ki, no⟩ ⟨k, n, s⟩ = (valB ⟨k, n, s⟩ && (decide (k = ki) || (decide (k = 0) && no))) from rfl)
  generalize valB ⟨k, n, s⟩ = bv at *
  cases bv
  · go_enter Tryz.func72, Tryz.ntmps72
    go_wp2_with (go_at_call 90; (with_reducible refine (HV.out _).mono ?_); rintro e w1 ⟨rfl, hb1⟩; obtain ⟨c0, c1, c2⟩ := HX.out _ hb1; have HB1 := Aside0.mk hb1; clear hb1)
    go_ret
    exact ⟨retB HF.out, bmore HB.out HB1.out⟩
  · have h1 := beq_dec k ki
    have h2 := beq_dec k 0
    generalize decide (k = ki) = b1 at *
    generalize decide (k = 0) = b2 at *
    cases b1 <;> cases b2
    all_goals
      go_enter Tryz.func72, Tryz.ntmps72
      go_wp2_with (go_at_call 90; (with_reducible refine (HV.out _).mono ?_); rintro e w1 ⟨rfl, hb1⟩; obtain ⟨c0, c1, c2⟩ := HX.out _ hb1; have HB1 := Aside0.mk hb1; clear hb1)
      go_ret
      exact ⟨retB HF.out, bmore HB.out HB1.out⟩
set_option maxRecDepth 100000 in
set_option maxHeartbeats 8000000 in
theorem begins_calls (A : Option Addr) (c : Nat) (l : List Col) (ks : Int) (R : Option Addr) (cr : Nat) (row : List Val) (n : Int) (hn : n ≤ (l.length : Int)) (w : World) (hC : kCol.C w A l.length l) (hR : kVal.C w R row.length row) (hT : TabsU w) :
    Calls Tryz.prog 78 #[.agg #[.slice A l.length c, .int .i64 ks], .slice R row.length cr, .int .i64 n] w fun e w' => e = .returned (.bool (beginB l row n)) ∧ Below w.heap.size w w' := by
  have hlen : l.length ≤ 9223372036854775807 := hC.2.1
  have hrow : row.length ≤ 9223372036854775807 := hR.2.1
  have HC := Aside0.mk hC
  have HR := Aside0.mk hR
  have HT := Aside0.mk hT
  clear hC hR hT
  by_cases hlt : n ≤ (row.length : Int)
  case neg =>
    have q : decide ((row.length : Int) < n) = true := decide_eq_true (by omega)
    have HX := Aside0.mk (show beginB l row n = false by unfold beginB; rw [decide_eq_false hlt]; rfl)
    go_enter Tryz.func78, Tryz.ntmps78
    go_wp2
    go_ret
    exact ⟨retB HX.out, below_alloc (Below.refl _ _) _⟩
  have q : decide ((row.length : Int) < n) = false := decide_eq_false (by omega)
  have HH := Aside0.mk (show beginB l row n = (List.range n.toNat).all (fun i => fitB (rdCol l i) (rdVal row i)) by unfold beginB; rw [decide_eq_true hlt]; rfl)
  go_enter Tryz.func78, Tryz.ntmps78
  go_wp2
  have hW : Below w.heap.size w (w.alloc (.cells #[.slice A l.length c, .int .i64 ks] 43)) := below_alloc (Below.refl _ _) _
  have h0 : (w.alloc (.cells #[.slice A l.length c, .int .i64 ks] 43)).heap[w.heap.size]? = some (.cells #[.slice A l.length c, .int .i64 ks] 43 (0, 0)) := heap_alloc_new _ _
  generalize w.alloc (.cells #[.slice A l.length c, .int .i64 ks] 43) = W1 at *
  have H0 := Aside0.mk h0
  have HW := Aside0.mk hW
  clear h0 hW q
  go_loopw [13] (fun i wr => ∃ k : Nat, (k : Int) ≤ max n 0 ∧ i = .int .i64 k ∧ (∀ j, j < k → fitB (rdCol l j) (rdVal row j) = true) ∧ Below W1.heap.size W1 wr) (fun i _ => n.toNat - (intOf i).toNat)
  case atStart => exact ⟨0, by omega, rfl, fun j hj => by omega, Below.refl _ _⟩
  case round =>
    obtain ⟨k, hk, rfl, hok, hbel⟩ := hrel
    have HOk := Aside0.mk hok
    clear hok
    by_cases hkn : (k : Int) < n
    case neg =>
      have q : decide ((k : Int) < n) = false := decide_eq_false hkn
      have HX := Aside0.mk (show beginB l row n = true by rw [HH.out]; exact range_good (fun j hj => HOk.out j (by omega)))
      go_wp2
      go_ret
      exact ⟨retB HX.out, bmore HW.out hbel⟩
    have q : decide ((k : Int) < n) = true := decide_eq_true hkn
    obtain ⟨ad, eA, d0, d1, d2⟩ := at_Col HC.out k (by omega)
    subst eA
    obtain ⟨bd, eB, f0, f1, f2⟩ := at_Val HR.out k (by omega)
    subst eB
    replace d0 := pw_cell_below (bmore HW.out hbel) d0
    replace d1 := pw_cell_below (bmore HW.out hbel) d1
    replace d2 := pw_cell_below (bmore HW.out hbel) d2
    replace f0 := pw_cell_below (bmore HW.out hbel) f0
    replace f1 := pw_cell_below (bmore HW.out hbel) f1
    replace f2 := pw_cell_below (bmore HW.out hbel) f2
    have a0 : wr.cell? ⟨w.heap.size, 0, none⟩ = some (.slice (some ad) l.length c) := pw_cell_below hbel (cell_of_row W1 _ 0 _ _ _ H0.out)
    have HBel := Aside0.mk hbel
    have hj0 : (0 : Int) ≤ (k : Int) := by omega
    have hj1 : (k : Int) < (l.length : Int) := by omega
    have hj2 : (k : Int) < (row.length : Int) := by omega
    have HF := Aside0.mk (fun (W : World) (hb : Below wr.heap.size wr W) => fits_calls (rdCol l k).name (rdCol l k).kind (rdCol l k).none (rdVal row k).kind (rdVal row k).num (rdVal row k).text W (HT.out.below (bmore (bmore HW.out HBel.out) hb)))
    have HBad := Aside0.mk (show fitB (rdCol l k) (rdVal row k) = false → beginB l row n = false from fun h => by rw [HH.out]; exact range_bad (by omega) h)
    have HNext := Aside0.mk (show fitB (rdCol l k) (rdVal row k) = true → ∀ j, j < k + 1 → fitB (rdCol l j) (rdVal row j) = true from fun hb j hj => by
      rcases Nat.lt_or_ge j k with h | h
      · exact HOk.out j h
      · have : j = k := by omega
        rw [this]; exact hb)
    clear hbel
    change Aside0 (∀ W, _ → Calls _ _ _ _ (fun e w' => e = .returned (.bool (fitB (rdCol l k) (rdVal row k))) ∧ _)) at HF
    generalize fitB (rdCol l k) (rdVal row k) = fb at *
    generalize rdCol l k = x at *
    generalize rdVal row k = y at *
    go_wp2
    go_region_held3 (fun W => W.cell? ⟨w.heap.size, 0, none⟩ = some (.slice (some ad) l.length c) ∧ W.cell? (ad.add (k * 3)) = some (.string x.name) ∧ W.cell? ⟨(ad.add (k * 3)).block, (ad.add (k * 3)).off + 1, none⟩ = some (.int .i64 x.kind) ∧ W.cell? ⟨(ad.add (k * 3)).block, (ad.add (k * 3)).off + 2, none⟩ = some (.bool x.none) ∧ W.cell? (bd.add (k * 3)) = some (.int .i64 y.kind) ∧ W.cell? ⟨(bd.add (k * 3)).block, (bd.add (k * 3)).off + 1, none⟩ = some (.int .i64 y.num) ∧ W.cell? ⟨(bd.add (k * 3)).block, (bd.add (k * 3)).off + 2, none⟩ = some (.string y.text))
      (first | assumption | exact ⟨a0, d0, d1, d2, f0, f1, f2⟩ | exact HS.out | go_keep)
      (first | (go_at_call 93; (with_reducible refine (HF.out _ ((Below.refl _ _).drew)).mono ?_); rintro e w3 ⟨rfl, hb1⟩; have hb3 := bmore ((Below.refl wr.heap.size wr).drew) hb1; have HB3 := Aside0.mk hb3; have HS := Aside0.mk (And.intro (pw_cell_below hb3 a0) (And.intro (pw_cell_below hb3 d0) (And.intro (pw_cell_below hb3 d1) (And.intro (pw_cell_below hb3 d2) (And.intro (pw_cell_below hb3 f0) (And.intro (pw_cell_below hb3 f1) (pw_cell_below hb3 f2))))))); clear hb1 hb3))
    cases fb
    · have HX := Aside0.mk (HBad.out rfl)
      go_wp2
      go_ret
      exact ⟨retB HX.out, bmore (bmore HW.out HBel.out) HB3.out⟩
    · have HX := Aside0.mk (HNext.out rfl)
      go_wp2
      go_roundw
      case rel => exact ⟨k + 1, by omega, by go_num, HX.out, bmore HBel.out HB3.out⟩
      case measure => simp [intOf]; omega
set_option maxRecDepth 100000 in
set_option maxHeartbeats 8000000 in
theorem fits04_calls (A : Option Addr) (c : Nat) (l : List Col) (ks : Int) (R : Option Addr) (cr : Nat) (row : List Val) (w : World) (hC : kCol.C w A l.length l) (hR : kVal.C w R row.length row) (hTx : txtOk row) :
    Calls Tryz.prog 45 #[.agg #[.slice A l.length c, .int .i64 ks], .slice R row.length cr] w fun e w' => e = .returned (.bool (fitsB l row)) ∧ Below w.heap.size w w' := by
  have hlen : l.length ≤ 9223372036854775807 := hC.2.1
  have hrow : row.length ≤ 9223372036854775807 := hR.2.1
  have HC := Aside0.mk hC
  have HR := Aside0.mk hR
  have HTx := Aside0.mk hTx
  clear hC hR hTx
  by_cases hlt : row.length = l.length
  case neg =>
    have q : ((row.length : Int) != (l.length : Int)) = true := by rw [bne_iff_ne]; omega
    have HX := Aside0.mk (show fitsB l row = false by unfold fitsB; rw [decide_eq_false hlt]; rfl)
    clear hlt
    go_enter Tryz.func45, Tryz.ntmps45
    go_wp2
    go_ret
    exact ⟨retB HX.out, below_alloc (Below.refl _ _) _⟩
  have q : ((row.length : Int) != (l.length : Int)) = false := by rw [bne_eq_false_iff_eq]; omega
  have HH := Aside0.mk (show fitsB l row = (List.range row.length).all (fun i => fitB (rdCol l i) (rdVal row i)) by unfold fitsB; rw [decide_eq_true hlt]; rfl)
  have hle : row.length ≤ l.length := by omega
  clear hlt
  go_enter Tryz.func45, Tryz.ntmps45
  go_wp2
  have hW : Below w.heap.size w (w.alloc (.cells #[.slice A l.length c, .int .i64 ks] 43)) := below_alloc (Below.refl _ _) _
  have h0 : (w.alloc (.cells #[.slice A l.length c, .int .i64 ks] 43)).heap[w.heap.size]? = some (.cells #[.slice A l.length c, .int .i64 ks] 43 (0, 0)) := heap_alloc_new _ _
  generalize w.alloc (.cells #[.slice A l.length c, .int .i64 ks] 43) = W1 at *
  have H0 := Aside0.mk h0
  have HW := Aside0.mk hW
  clear h0 hW q
  go_loopw [5] (fun i wr => ∃ k : Nat, k ≤ row.length ∧ i = .int .i64 k ∧ (∀ j, j < k → fitB (rdCol l j) (rdVal row j) = true) ∧ Below W1.heap.size W1 wr) (fun i _ => row.length - (intOf i).toNat)
  case atStart => exact ⟨0, by omega, rfl, fun j hj => by omega, Below.refl _ _⟩
  case round =>
    obtain ⟨k, hk, rfl, hok, hbel⟩ := hrel
    have HOk := Aside0.mk hok
    clear hok
    by_cases hkn : k < row.length
    case neg =>
      obtain rfl : k = row.length := by omega
      have HX := Aside0.mk (show fitsB l row = true by rw [HH.out]; exact range_good (fun j hj => HOk.out j (by omega)))
      go_wp2
      go_ret
      exact ⟨retB HX.out, bmore HW.out hbel⟩
    obtain ⟨ad, eA, d0, d1, d2⟩ := at_Col HC.out k (by omega)
    subst eA
    obtain ⟨bd, eB, f0, f1, f2⟩ := at_Val HR.out k (by omega)
    subst eB
    replace d0 := pw_cell_below (bmore HW.out hbel) d0
    replace d1 := pw_cell_below (bmore HW.out hbel) d1
    replace d2 := pw_cell_below (bmore HW.out hbel) d2
    replace f0 := pw_cell_below (bmore HW.out hbel) f0
    replace f1 := pw_cell_below (bmore HW.out hbel) f1
    replace f2 := pw_cell_below (bmore HW.out hbel) f2
    have a0 : wr.cell? ⟨w.heap.size, 0, none⟩ = some (.slice (some ad) l.length c) := pw_cell_below hbel (cell_of_row W1 _ 0 _ _ _ H0.out)
    have HBel := Aside0.mk hbel
    have hj0 : (0 : Int) ≤ (k : Int) := by omega
    have hj1 : (k : Int) < (l.length : Int) := by omega
    have hj2 : (k : Int) < (row.length : Int) := by omega
    have HF := Aside0.mk (fun (W : World) => stands_calls (rdCol l k).name (rdCol l k).kind (rdCol l k).none (rdVal row k).kind (rdVal row k).num (rdVal row k).text (txtOk_at HTx.out hkn) W)
    have HBad := Aside0.mk (show fitB (rdCol l k) (rdVal row k) = false → fitsB l row = false from fun h => by rw [HH.out]; exact range_bad hkn h)
    have HNext := Aside0.mk (show fitB (rdCol l k) (rdVal row k) = true → ∀ j, j < k + 1 → fitB (rdCol l j) (rdVal row j) = true from fun hb j hj => by
      rcases Nat.lt_or_ge j k with h | h
      · exact HOk.out j h
      · have : j = k := by omega
        rw [this]; exact hb)
    clear hbel
    change Aside0 (∀ W, Calls _ _ _ _ (fun e w' => e = .returned (.bool (fitB (rdCol l k) (rdVal row k))) ∧ _)) at HF
    generalize fitB (rdCol l k) (rdVal row k) = fb at *
    generalize rdCol l k = x at *
    generalize rdVal row k = y at *
    go_wp2
    go_region_held3 (fun W => W.cell? ⟨w.heap.size, 0, none⟩ = some (.slice (some ad) l.length c) ∧ W.cell? (ad.add (k * 3)) = some (.string x.name) ∧ W.cell? ⟨(ad.add (k * 3)).block, (ad.add (k * 3)).off + 1, none⟩ = some (.int .i64 x.kind) ∧ W.cell? ⟨(ad.add (k * 3)).block, (ad.add (k * 3)).off + 2, none⟩ = some (.bool x.none) ∧ W.cell? (bd.add (k * 3)) = some (.int .i64 y.kind) ∧ W.cell? ⟨(bd.add (k * 3)).block, (bd.add (k * 3)).off + 1, none⟩ = some (.int .i64 y.num) ∧ W.cell? ⟨(bd.add (k * 3)).block, (bd.add (k * 3)).off + 2, none⟩ = some (.string y.text))
      (first | assumption | exact ⟨a0, d0, d1, d2, f0, f1, f2⟩ | exact HS.out | go_keep)
      (first | (go_at_call 72; (with_reducible refine (HF.out _).mono ?_); rintro e w3 ⟨rfl, hb1⟩; have hb3 := bmore ((Below.refl wr.heap.size wr).drew) hb1; have HB3 := Aside0.mk hb3; have HS := Aside0.mk (And.intro (pw_cell_below hb3 a0) (And.intro (pw_cell_below hb3 d0) (And.intro (pw_cell_below hb3 d1) (And.intro (pw_cell_below hb3 d2) (And.intro (pw_cell_below hb3 f0) (And.intro (pw_cell_below hb3 f1) (pw_cell_below hb3 f2))))))); clear hb1 hb3))
    cases fb
    · have HX := Aside0.mk (HBad.out rfl)
      go_wp2
      go_ret
      exact ⟨retB HX.out, bmore (bmore HW.out HBel.out) HB3.out⟩
    · have HX := Aside0.mk (HNext.out rfl)
      go_wp2
      go_roundw
      case rel => exact ⟨k + 1, by omega, by go_num, HX.out, bmore HBel.out HB3.out⟩
      case measure => simp [intOf]; omega
end Go.Proofs.YtmdofdaiepilbaaGreatDoor
