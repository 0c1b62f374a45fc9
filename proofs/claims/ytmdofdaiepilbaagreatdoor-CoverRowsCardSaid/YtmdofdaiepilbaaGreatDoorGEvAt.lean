/- cmp.Compare at texts, and the comparison of a table's name. Conditions: none. -/
import Derived.Test.YtmdofdaiepilbaaGreatDoorGName
import Derived.Test.YtmdofdaiepilbaaGreatDoorGApi
import Derived.WalkLawsBesides
import Derived.Test.YtmdofdaiepilbaaGreatDoorSchFits
import Derived.Test.YtmdofdaiepilbaaGreatDoorGPush
namespace Go.Proofs.YtmdofdaiepilbaaGreatDoor
open Go.RowKit Go.Proofs.YtmdofdaiepilbaaGreatDoorW.PrintWords
set_option linter.unusedVariables false
set_option linter.unusedSimpArgs false
def ltS (a b : ByteArray) : Prop := a.data.toList < b.data.toList
instance (a b : ByteArray) : Decidable (ltS a b) := by unfold ltS; infer_instance
def cmpS (a b : ByteArray) : Int := if ltS a b then -1 else if a = b then 0 else 1
theorem nan_calls (a : ByteArray) (w : World) : Calls Tryz.prog 98 #[.string a] w fun e w' => e = .returned (.bool false) ∧ w = w' := by
  have hq : (a.toList != a.toList) = false := by simp
  go_enter Tryz.func98, Tryz.ntmps98
  go_wp2
  go_ret
  exact ⟨rfl, rfl⟩
theorem bl_eq : ∀ (x y : List UInt8), Op.bytesLess x y = decide (x < y)
  | [], [] => rfl
  | [], _ :: _ => by simp [Op.bytesLess]
  | _ :: _, [] => by simp [Op.bytesLess]
  | a :: x, b :: y => by
    have ih := bl_eq x y
    simp only [Op.bytesLess, List.cons_lt_cons_iff, ih]
    by_cases h1 : a < b
    · simp [h1]
    · by_cases h2 : a = b
      · subst h2; simp
      · simp [h1, h2]
theorem less_dec (a b : ByteArray) : Op.bytesLess a.toList b.toList = decide (ltS a b) := by
  rw [ByteArray.toList_eq, ByteArray.toList_eq, bl_eq]
  rfl
theorem cmp_calls (a b : ByteArray) (w : World) : Calls Tryz.prog 84 #[.string a, .string b] w fun e w' => e = .returned (.int .i64 (cmpS a b)) ∧ w = w' := by
  have h1 := less_dec a b
  have h2 := str_eqN a b
  have HN := Aside0.mk (nan_calls a)
  have HM := Aside0.mk (nan_calls b)
  by_cases q1 : ltS a b
  · have HC := Aside0.mk (show cmpS a b = -1 by unfold cmpS; rw [if_pos q1])
    rw [decide_eq_true q1] at h1
    clear q1 h2
    go_enter Tryz.func84, Tryz.ntmps84
    go_wp2_with (first
      | (go_at_call 98; (with_reducible refine (HN.out _).mono ?_); rintro e w1 ⟨rfl, rfl⟩)
      | (go_at_call 98; (with_reducible refine (HM.out _).mono ?_); rintro e w1 ⟨rfl, rfl⟩))
    go_ret
    exact ⟨retI HC.out, rfl⟩
  · rw [decide_eq_false q1] at h1
    by_cases q2 : a = b
    · have HC := Aside0.mk (show cmpS a b = 0 by unfold cmpS; rw [if_neg q1, if_pos q2])
      rw [decide_eq_true q2] at h2
      clear q1 q2
      go_enter Tryz.func84, Tryz.ntmps84
      go_wp2_with (first
        | (go_at_call 98; (with_reducible refine (HN.out _).mono ?_); rintro e w1 ⟨rfl, rfl⟩)
        | (go_at_call 98; (with_reducible refine (HM.out _).mono ?_); rintro e w1 ⟨rfl, rfl⟩))
      go_ret
      exact ⟨retI HC.out, rfl⟩
    · have HC := Aside0.mk (show cmpS a b = 1 by unfold cmpS; rw [if_neg q1, if_neg q2])
      rw [decide_eq_false q2] at h2
      clear q1 q2
      go_enter Tryz.func84, Tryz.ntmps84
      go_wp2_with (first
        | (go_at_call 98; (with_reducible refine (HN.out _).mono ?_); rintro e w1 ⟨rfl, rfl⟩)
        | (go_at_call 98; (with_reducible refine (HM.out _).mono ?_); rintro e w1 ⟨rfl, rfl⟩))
      go_ret
      exact ⟨retI HC.out, rfl⟩
end Go.Proofs.YtmdofdaiepilbaaGreatDoor

/- event.at: where a table of a name stands, or would. Conditions: the tables read so, sorted by their names. -/
namespace Go.Proofs.YtmdofdaiepilbaaGreatDoor
open Go.RowKit Go.Proofs.YtmdofdaiepilbaaGreatDoorW.PrintWords
set_option linter.unusedVariables false
set_option linter.unusedSimpArgs false
theorem at1_calls (nm s : ByteArray) (A : Option Addr) (n c : Nat) (ks : Int) (w : World) :
    Calls Tryz.prog 83 #[.agg #[.string nm, .slice A n c, .int .i64 ks], .string s] w fun e w' => e = .returned (.int .i64 (cmpS nm s)) ∧ Below w.heap.size w w' := by
  have HC := Aside0.mk (cmp_calls nm s)
  generalize cmpS nm s = r at *
  go_enter Tryz.func83, Tryz.ntmps83
  go_wp2_with (go_at_call 84; (with_reducible refine (HC.out _).mono ?_); rintro e w1 ⟨rfl, rfl⟩)
  go_ret
  exact ⟨rfl, below_alloc (Below.refl _ _) _⟩
/-- tables in the order of their names -/
def sortT (l : List Tab) : Prop := l.Pairwise (fun a b => ltS a.name b.name)
theorem rdTab_get {l : List Tab} {k : Nat} (h : k < l.length) : rdTab l k = l[k] := by unfold rdTab; simp [List.getD_eq_getElem?_getD, h]
theorem sortT_lt {l : List Tab} (h : sortT l) {i j : Nat} (hij : i < j) (hj : j < l.length) : ltS (rdTab l i).name (rdTab l j).name := by
  rw [rdTab_get (by omega), rdTab_get hj]
  exact List.pairwise_iff_getElem.1 h i j (by omega) hj hij
theorem ltS_trans {a b c : ByteArray} (h : ltS a b) (h2 : ltS b c) : ltS a c := List.lt_trans h h2
theorem ltS_irrefl (a : ByteArray) : ¬ ltS a a := List.lt_irrefl _
theorem cmpS_neg {a b : ByteArray} : cmpS a b < 0 ↔ ltS a b := by
  unfold cmpS
  by_cases h : ltS a b
  · rw [if_pos h]; simp [h]
  · rw [if_neg h]; split <;> simp [h]
theorem cmpS_zero {a b : ByteArray} : cmpS a b = 0 ↔ a = b := by
  unfold cmpS
  by_cases h : ltS a b
  · rw [if_pos h]
    constructor
    · intro h2; omega
    · rintro rfl; exact absurd h (ltS_irrefl _)
  · rw [if_neg h]; split
    · rename_i h2; simp [h2]
    · rename_i h2; simp [h2]
theorem ltS_of_not {a b : ByteArray} (h : ¬ ltS a b) (hne : a ≠ b) : ltS b a := by
  unfold ltS at *
  rcases List.le_total a.data.toList b.data.toList with h1 | h1
  · by_cases h2 : b.data.toList ≤ a.data.toList
    · exact absurd (ByteArray.ext (Array.toList_inj.1 (List.le_antisymm h1 h2))) hne
    · exact absurd (List.not_le.1 h2) h
  · by_cases h2 : a.data.toList ≤ b.data.toList
    · exact absurd (ByteArray.ext (Array.toList_inj.1 (List.le_antisymm h2 h1))) hne
    · exact List.not_le.1 h2
/-- where a table of a name would stand -/
def posT (l : List Tab) (s : ByteArray) : Nat := l.countP (fun t => decide (ltS t.name s))
theorem posT_of {l : List Tab} {s : ByteArray} {i : Nat} (hi : i ≤ l.length) (h1 : ∀ j, j < i → ltS (rdTab l j).name s) (h2 : ∀ j, i ≤ j → j < l.length → ¬ ltS (rdTab l j).name s) : posT l s = i := by
  unfold posT
  rw [← List.take_append_drop i l, List.countP_append]
  have e1 : (l.take i).countP (fun t => decide (ltS t.name s)) = (l.take i).length := by
    rw [List.countP_eq_length]
    intro a ha
    obtain ⟨j, hj, rfl⟩ := List.mem_iff_getElem.1 ha
    rw [List.length_take] at hj
    rw [List.getElem_take, ← rdTab_get (by omega)]
    exact decide_eq_true (h1 j (by omega))
  have e2 : (l.drop i).countP (fun t => decide (ltS t.name s)) = 0 := by
    rw [List.countP_eq_zero]
    intro a ha
    obtain ⟨j, hj, rfl⟩ := List.mem_iff_getElem.1 ha
    rw [List.length_drop] at hj
    rw [List.getElem_drop, ← rdTab_get (by omega)]
    simpa using h2 (i + j) (by omega) (by omega)
  rw [e1, e2, List.length_take]
  omega
def hasT (l : List Tab) (s : ByteArray) : Bool := decide (posT l s < l.length) && decide ((rdTab l (posT l s)).name = s)
set_option maxRecDepth 100000 in
set_option maxHeartbeats 8000000 in
theorem bsf_calls (A : Option Addr) (c : Nat) (l : List Tab) (s : ByteArray) (hs : sortT l) (w : World) (hC : kTab.C w A l.length l) (hlen : l.length ≤ 1000000) :
    Calls Tryz.prog 82 #[.slice A l.length c, .string s, .func (.func 83) #[] #[]] w fun e w' => e = .returned (.tuple #[.int .i64 (posT l s : Int), .bool (hasT l s)]) ∧ Below w.heap.size w w' := by
  have HC := Aside0.mk hC
  have HS := Aside0.mk hs
  have hcall : ∀ args W, (callFunc 83 args).run Tryz.prog W = .ok (.enter 83 args) W := fun _ _ => by kernel_rfl
  clear hC hs
  go_enter Tryz.func82, Tryz.ntmps82
  go_wp2
  go_loopw [9, 10] (fun i j wr => ∃ lo hi : Nat, lo ≤ hi ∧ hi ≤ l.length ∧ i = .int .i64 lo ∧ j = .int .i64 hi ∧ (∀ j, j < lo → ltS (rdTab l j).name s) ∧ (∀ j, hi ≤ j → j < l.length → ¬ ltS (rdTab l j).name s) ∧ Below w.heap.size w wr) (fun i j _ => (intOf j).toNat - (intOf i).toNat)
  case atStart => exact ⟨0, l.length, by omega, by omega, rfl, rfl, fun j hj => by omega, fun j hj1 hj2 => by omega, Below.refl _ _⟩
  case round =>
    obtain ⟨lo, hi, h1, h2, rfl, rfl, hlo, hhi, hbel⟩ := hrel
    have HLo := Aside0.mk hlo
    have HHi := Aside0.mk hhi
    clear hlo hhi
    by_cases hlt : lo < hi
    · go_upto_region 5 with fail
      have hmd : ((lo : Int) + (hi : Int)) / 2 = (((lo + hi) / 2 : Nat) : Int) := by omega
      have hm1 : lo ≤ (lo + hi) / 2 := by omega
      have hm2 : (lo + hi) / 2 < hi := by omega
      rw [hmd]
      clear hmd
      generalize (lo + hi) / 2 = md at *
      obtain ⟨ad, A1, c1, eA, d0, d1, d2, _, _⟩ := at_Tab HC.out md (by omega)
      subst eA
      replace d0 := pw_cell_below hbel d0
      replace d1 := pw_cell_below hbel d1
      replace d2 := pw_cell_below hbel d2
      have HBel := Aside0.mk hbel
      have hj1 : (md : Int) < (l.length : Int) := by omega
      have HM := Aside0.mk (fun W => at1_calls (rdTab l md).name s A1 (rdTab l md).schema.cols.length c1 (rdTab l md).schema.keys W)
      have HLt := Aside0.mk (show cmpS (rdTab l md).name s < 0 → ∀ j, j < md + 1 → ltS (rdTab l j).name s from fun h j hj => by
        rcases Nat.lt_or_ge j md with h3 | h3
        · exact ltS_trans (sortT_lt HS.out h3 (by omega)) (cmpS_neg.1 h)
        · have : j = md := by omega
          rw [this]; exact cmpS_neg.1 h)
      have HGe := Aside0.mk (show ¬ cmpS (rdTab l md).name s < 0 → ∀ j, md ≤ j → j < l.length → ¬ ltS (rdTab l j).name s from fun h j hj1 hj2 h5 => by
        rcases Nat.lt_or_ge md j with h3 | h3
        · exact h (cmpS_neg.2 (ltS_trans (sortT_lt HS.out h3 hj2) h5))
        · have : j = md := by omega
          rw [this] at h5; exact h (cmpS_neg.2 h5))
      clear hbel
      generalize cmpS (rdTab l md).name s = r at *
      generalize (rdTab l md).name = nm at *
      generalize (rdTab l md).schema.cols.length = nc at *
      generalize (rdTab l md).schema.keys = nk at *
      by_cases hr : r < 0
      · have hX := Aside0.mk (HLt.out hr)
        have hd : decide (r < 0) = true := decide_eq_true hr
        go_wp2_with (go_at_call 83; (with_reducible refine (HM.out _).mono ?_); rintro e w1 ⟨rfl, hb1⟩; have HB1 := Aside0.mk hb1; clear hb1)
        go_roundw
        case rel => exact ⟨md + 1, hi, by omega, by omega, by go_num, rfl, hX.out, HHi.out, HBel.out.trans (HB1.out.mono HBel.out.size)⟩
        case measure => simp [intOf]; omega
      · have hX := Aside0.mk (HGe.out hr)
        have hd : decide (r < 0) = false := decide_eq_false hr
        go_wp2_with (go_at_call 83; (with_reducible refine (HM.out _).mono ?_); rintro e w1 ⟨rfl, hb1⟩; have HB1 := Aside0.mk hb1; clear hb1)
        go_roundw
        case rel => exact ⟨lo, md, by omega, by omega, rfl, rfl, HLo.out, hX.out, HBel.out.trans (HB1.out.mono HBel.out.size)⟩
        case measure => simp [intOf]; omega
    · obtain rfl : hi = lo := by omega
      have hp := posT_of h2 HLo.out HHi.out
      have hh : hasT l s = (decide (hi < l.length) && decide ((rdTab l hi).name = s)) := by unfold hasT; rw [hp]
      have HP := Aside0.mk hp
      clear hp
      by_cases hl : hi < l.length
      · obtain ⟨ad, A1, c1, eA, d0, d1, d2, _, _⟩ := at_Tab HC.out hi hl
        subst eA
        replace d0 := pw_cell_below hbel d0
        replace d1 := pw_cell_below hbel d1
        replace d2 := pw_cell_below hbel d2
        have HBel := Aside0.mk hbel
        have hl' : (hi : Int) < (l.length : Int) := by omega
        have hq : (cmpS (rdTab l hi).name s == 0) = decide ((rdTab l hi).name = s) := by
          by_cases h : (rdTab l hi).name = s
          · rw [decide_eq_true h, cmpS_zero.2 h]; rfl
          · rw [decide_eq_false h, beq_eq_false_iff_ne]; exact fun h2 => h (cmpS_zero.1 h2)
        have HM := Aside0.mk (fun W => at1_calls (rdTab l hi).name s A1 (rdTab l hi).schema.cols.length c1 (rdTab l hi).schema.keys W)
        rw [decide_eq_true hl, Bool.true_and] at hh
        have HH := Aside0.mk hh
        clear hbel hh
        generalize decide ((rdTab l hi).name = s) = b at *
        generalize cmpS (rdTab l hi).name s = r at *
        generalize (rdTab l hi).name = nm at *
        generalize (rdTab l hi).schema.cols.length = nc at *
        generalize (rdTab l hi).schema.keys = nk at *
        go_wp2_with (go_at_call 83; (with_reducible refine (HM.out _).mono ?_); rintro e w1 ⟨rfl, hb1⟩; have HB1 := Aside0.mk hb1; clear hb1)
        exact bodyPost_ret (v := .tuple #[.int .i64 hi, .bool b]) (by simp [results, Tryz.results82, go_sem]) rfl ⟨by rw [HP.out, HH.out], HBel.out.trans (HB1.out.mono HBel.out.size)⟩
      · have hl' : ¬ (hi : Int) < (l.length : Int) := by omega
        rw [decide_eq_false hl, Bool.false_and] at hh
        have HH := Aside0.mk hh
        clear hh
        go_wp2
        exact bodyPost_ret (v := .tuple #[.int .i64 hi, .bool false]) (by simp [results, Tryz.results82, go_sem]) rfl ⟨by rw [HP.out, HH.out], hbel⟩
theorem evAt_calls (A : Option Addr) (c : Nat) (l : List Tab) (s : ByteArray) (hs : sortT l) (w : World) (hC : kTab.C w A l.length l) (hlen : l.length ≤ 1000000) :
    Calls Tryz.prog 61 #[.slice A l.length c, .string s] w fun e w' => e = .returned (.tuple #[.int .i64 (posT l s : Int), .bool (hasT l s)]) ∧ Below w.heap.size w w' := by
  have HB := Aside0.mk (bsf_calls A c l s hs w hC hlen)
  clear hs hC
  generalize posT l s = p at *
  generalize hasT l s = h at *
  go_enter Tryz.func61, Tryz.ntmps61
  go_wp2_with (go_at_call 82; (with_reducible refine (HB.out).mono ?_); rintro e w1 ⟨rfl, hb1⟩)
  exact bodyPost_ret (v := .tuple #[.int .i64 p, .bool h]) (by simp [results, Tryz.results61, go_sem]) rfl ⟨rfl, hb1⟩
end Go.Proofs.YtmdofdaiepilbaaGreatDoor

/- chunk.at: where a table's work stands, or would. Conditions: the works read so, sorted by their tables. -/
namespace Go.Proofs.YtmdofdaiepilbaaGreatDoor
open Go.RowKit Go.Proofs.YtmdofdaiepilbaaGreatDoorW.PrintWords
set_option linter.unusedVariables false
set_option linter.unusedSimpArgs false
theorem chat1_calls (nm s ks : ByteArray) (dn : Bool) (w : World) :
    Calls Tryz.prog 97 #[.agg #[.string nm, .bool dn, .string ks], .string s] w fun e w' => e = .returned (.int .i64 (cmpS nm s)) ∧ Below w.heap.size w w' := by
  have HC := Aside0.mk (cmp_calls nm s)
  generalize cmpS nm s = r at *
  go_enter Tryz.func97, Tryz.ntmps97
  go_wp2_with (go_at_call 84; (with_reducible refine (HC.out _).mono ?_); rintro e w1 ⟨rfl, rfl⟩)
  go_ret
  exact ⟨rfl, below_alloc (Below.refl _ _) _⟩
/-- works in the order of their tables -/
def sortW (l : List Wrk) : Prop := l.Pairwise (fun a b => ltS a.table b.table)
theorem rdWrk_get {l : List Wrk} {k : Nat} (h : k < l.length) : rdWrk l k = l[k] := by unfold rdWrk; simp [List.getD_eq_getElem?_getD, h]
theorem sortW_lt {l : List Wrk} (h : sortW l) {i j : Nat} (hij : i < j) (hj : j < l.length) : ltS (rdWrk l i).table (rdWrk l j).table := by
  rw [rdWrk_get (by omega), rdWrk_get hj]
  exact List.pairwise_iff_getElem.1 h i j (by omega) hj hij
/-- where a table of a name would stand -/
def posW (l : List Wrk) (s : ByteArray) : Nat := l.countP (fun t => decide (ltS t.table s))
theorem posW_of {l : List Wrk} {s : ByteArray} {i : Nat} (hi : i ≤ l.length) (h1 : ∀ j, j < i → ltS (rdWrk l j).table s) (h2 : ∀ j, i ≤ j → j < l.length → ¬ ltS (rdWrk l j).table s) : posW l s = i := by
  unfold posW
  rw [← List.take_append_drop i l, List.countP_append]
  have e1 : (l.take i).countP (fun t => decide (ltS t.table s)) = (l.take i).length := by
    rw [List.countP_eq_length]
    intro a ha
    obtain ⟨j, hj, rfl⟩ := List.mem_iff_getElem.1 ha
    rw [List.length_take] at hj
    rw [List.getElem_take, ← rdWrk_get (by omega)]
    exact decide_eq_true (h1 j (by omega))
  have e2 : (l.drop i).countP (fun t => decide (ltS t.table s)) = 0 := by
    rw [List.countP_eq_zero]
    intro a ha
    obtain ⟨j, hj, rfl⟩ := List.mem_iff_getElem.1 ha
    rw [List.length_drop] at hj
    rw [List.getElem_drop, ← rdWrk_get (by omega)]
    simpa using h2 (i + j) (by omega) (by omega)
  rw [e1, e2, List.length_take]
  omega
def hasW (l : List Wrk) (s : ByteArray) : Bool := decide (posW l s < l.length) && decide ((rdWrk l (posW l s)).table = s)
set_option maxRecDepth 100000 in
set_option maxHeartbeats 8000000 in
theorem bsfW_calls (A : Option Addr) (c : Nat) (l : List Wrk) (s : ByteArray) (hs : sortW l) (w : World) (hC : kWrk.C w A l.length l) (hlen : l.length ≤ 1000000) :
    Calls Tryz.prog 96 #[.slice A l.length c, .string s, .func (.func 97) #[] #[]] w fun e w' => e = .returned (.tuple #[.int .i64 (posW l s : Int), .bool (hasW l s)]) ∧ Below w.heap.size w w' := by
  have HC := Aside0.mk hC
  have HS := Aside0.mk hs
  have hcall : ∀ args W, (callFunc 97 args).run Tryz.prog W = .ok (.enter 97 args) W := fun _ _ => by kernel_rfl
  clear hC hs
  go_enter Tryz.func96, Tryz.ntmps96
  go_wp2
  go_loopw [9, 10] (fun i j wr => ∃ lo hi : Nat, lo ≤ hi ∧ hi ≤ l.length ∧ i = .int .i64 lo ∧ j = .int .i64 hi ∧ (∀ j, j < lo → ltS (rdWrk l j).table s) ∧ (∀ j, hi ≤ j → j < l.length → ¬ ltS (rdWrk l j).table s) ∧ Below w.heap.size w wr) (fun i j _ => (intOf j).toNat - (intOf i).toNat)
  case atStart => exact ⟨0, l.length, by omega, by omega, rfl, rfl, fun j hj => by omega, fun j hj1 hj2 => by omega, Below.refl _ _⟩
  case round =>
    obtain ⟨lo, hi, h1, h2, rfl, rfl, hlo, hhi, hbel⟩ := hrel
    have HLo := Aside0.mk hlo
    have HHi := Aside0.mk hhi
    clear hlo hhi
    by_cases hlt : lo < hi
    · go_upto_region 5 with fail
      have hmd : ((lo : Int) + (hi : Int)) / 2 = (((lo + hi) / 2 : Nat) : Int) := by omega
      have hm1 : lo ≤ (lo + hi) / 2 := by omega
      have hm2 : (lo + hi) / 2 < hi := by omega
      rw [hmd]
      clear hmd
      generalize (lo + hi) / 2 = md at *
      obtain ⟨ad, eA, d0, d1, d2⟩ := at_Wrk HC.out md (by omega)
      subst eA
      replace d0 := pw_cell_below hbel d0
      replace d1 := pw_cell_below hbel d1
      replace d2 := pw_cell_below hbel d2
      have HBel := Aside0.mk hbel
      have hj1 : (md : Int) < (l.length : Int) := by omega
      have HM := Aside0.mk (fun W => chat1_calls (rdWrk l md).table s (rdWrk l md).key (rdWrk l md).done W)
      have HLt := Aside0.mk (show cmpS (rdWrk l md).table s < 0 → ∀ j, j < md + 1 → ltS (rdWrk l j).table s from fun h j hj => by
        rcases Nat.lt_or_ge j md with h3 | h3
        · exact ltS_trans (sortW_lt HS.out h3 (by omega)) (cmpS_neg.1 h)
        · have : j = md := by omega
          rw [this]; exact cmpS_neg.1 h)
      have HGe := Aside0.mk (show ¬ cmpS (rdWrk l md).table s < 0 → ∀ j, md ≤ j → j < l.length → ¬ ltS (rdWrk l j).table s from fun h j hj1 hj2 h5 => by
        rcases Nat.lt_or_ge md j with h3 | h3
        · exact h (cmpS_neg.2 (ltS_trans (sortW_lt HS.out h3 hj2) h5))
        · have : j = md := by omega
          rw [this] at h5; exact h (cmpS_neg.2 h5))
      clear hbel
      generalize cmpS (rdWrk l md).table s = r at *
      generalize (rdWrk l md).table = nm at *
      generalize (rdWrk l md).done = nc at *
      generalize (rdWrk l md).key = nk at *
      by_cases hr : r < 0
      · have hX := Aside0.mk (HLt.out hr)
        have hd : decide (r < 0) = true := decide_eq_true hr
        go_wp2_with (go_at_call 97; (with_reducible refine (HM.out _).mono ?_); rintro e w1 ⟨rfl, hb1⟩; have HB1 := Aside0.mk hb1; clear hb1)
        go_roundw
        case rel => exact ⟨md + 1, hi, by omega, by omega, by go_num, rfl, hX.out, HHi.out, HBel.out.trans (HB1.out.mono HBel.out.size)⟩
        case measure => simp [intOf]; omega
      · have hX := Aside0.mk (HGe.out hr)
        have hd : decide (r < 0) = false := decide_eq_false hr
        go_wp2_with (go_at_call 97; (with_reducible refine (HM.out _).mono ?_); rintro e w1 ⟨rfl, hb1⟩; have HB1 := Aside0.mk hb1; clear hb1)
        go_roundw
        case rel => exact ⟨lo, md, by omega, by omega, rfl, rfl, HLo.out, hX.out, HBel.out.trans (HB1.out.mono HBel.out.size)⟩
        case measure => simp [intOf]; omega
    · obtain rfl : hi = lo := by omega
      have hp := posW_of h2 HLo.out HHi.out
      have hh : hasW l s = (decide (hi < l.length) && decide ((rdWrk l hi).table = s)) := by unfold hasW; rw [hp]
      have HP := Aside0.mk hp
      clear hp
      by_cases hl : hi < l.length
      · obtain ⟨ad, eA, d0, d1, d2⟩ := at_Wrk HC.out hi hl
        subst eA
        replace d0 := pw_cell_below hbel d0
        replace d1 := pw_cell_below hbel d1
        replace d2 := pw_cell_below hbel d2
        have HBel := Aside0.mk hbel
        have hl' : (hi : Int) < (l.length : Int) := by omega
        have hq : (cmpS (rdWrk l hi).table s == 0) = decide ((rdWrk l hi).table = s) := by
          by_cases h : (rdWrk l hi).table = s
          · rw [decide_eq_true h, cmpS_zero.2 h]; rfl
          · rw [decide_eq_false h, beq_eq_false_iff_ne]; exact fun h2 => h (cmpS_zero.1 h2)
        have HM := Aside0.mk (fun W => chat1_calls (rdWrk l hi).table s (rdWrk l hi).key (rdWrk l hi).done W)
        rw [decide_eq_true hl, Bool.true_and] at hh
        have HH := Aside0.mk hh
        clear hbel hh
        generalize decide ((rdWrk l hi).table = s) = b at *
        generalize cmpS (rdWrk l hi).table s = r at *
        generalize (rdWrk l hi).table = nm at *
        generalize (rdWrk l hi).done = nc at *
        generalize (rdWrk l hi).key = nk at *
        go_wp2_with (go_at_call 97; (with_reducible refine (HM.out _).mono ?_); rintro e w1 ⟨rfl, hb1⟩; have HB1 := Aside0.mk hb1; clear hb1)
        exact bodyPost_ret (v := .tuple #[.int .i64 hi, .bool b]) (by simp [results, Tryz.results96, go_sem]) rfl ⟨by rw [HP.out, HH.out], HBel.out.trans (HB1.out.mono HBel.out.size)⟩
      · have hl' : ¬ (hi : Int) < (l.length : Int) := by omega
        rw [decide_eq_false hl, Bool.false_and] at hh
        have HH := Aside0.mk hh
        clear hh
        go_wp2
        exact bodyPost_ret (v := .tuple #[.int .i64 hi, .bool false]) (by simp [results, Tryz.results96, go_sem]) rfl ⟨by rw [HP.out, HH.out], hbel⟩
theorem chAt_calls (A : Option Addr) (c : Nat) (l : List Wrk) (s : ByteArray) (hs : sortW l) (w : World) (hC : kWrk.C w A l.length l) (hlen : l.length ≤ 1000000) :
    Calls Tryz.prog 80 #[.slice A l.length c, .string s] w fun e w' => e = .returned (.tuple #[.int .i64 (posW l s : Int), .bool (hasW l s)]) ∧ Below w.heap.size w w' := by
  have HB := Aside0.mk (bsfW_calls A c l s hs w hC hlen)
  clear hs hC
  generalize posW l s = p at *
  generalize hasW l s = h at *
  go_enter Tryz.func80, Tryz.ntmps80
  go_wp2_with (go_at_call 96; (with_reducible refine (HB.out).mono ?_); rintro e w1 ⟨rfl, hb1⟩)
  exact bodyPost_ret (v := .tuple #[.int .i64 p, .bool h]) (by simp [results, Tryz.results80, go_sem]) rfl ⟨rfl, hb1⟩
end Go.Proofs.YtmdofdaiepilbaaGreatDoor

/- The document's At of works: where a table's work stands. Conditions: the works read so, sorted by their tables. -/
namespace Go.Proofs.YtmdofdaiepilbaaGreatDoor
open Go.RowKit Go.Proofs.YtmdofdaiepilbaaGreatDoorW.PrintWords
set_option linter.unusedVariables false
set_option linter.unusedSimpArgs false
/-- the place of a table's work; -1: it is not there -/
def atW (l : List Wrk) (s : ByteArray) : Int := if hasW l s then (posW l s : Int) else -1
theorem atW_some {l : List Wrk} {s : ByteArray} (hs : sortW l) {k : Nat} (hk : k < l.length) (h : (rdWrk l k).table = s) : posW l s = k ∧ hasW l s = true := by
  have hp : posW l s = k := posW_of (by omega) (fun j hj => by rw [← h]; exact sortW_lt hs hj hk) (fun j h1 h2 h3 => by
    rcases Nat.lt_or_ge k j with h4 | h4
    · rw [← h] at h3; exact ltS_irrefl _ (ltS_trans (sortW_lt hs h4 h2) h3)
    · have : j = k := by omega
      rw [this, h] at h3; exact ltS_irrefl _ h3)
  refine ⟨hp, ?_⟩
  unfold hasW
  rw [hp, decide_eq_true hk, decide_eq_true h]
  rfl
theorem hasW_none {l : List Wrk} {s : ByteArray} (h : ∀ j, j < l.length → (rdWrk l j).table ≠ s) : hasW l s = false := by
  unfold hasW
  by_cases hp : posW l s < l.length
  · rw [decide_eq_false (h _ hp), Bool.and_false]
  · rw [decide_eq_false hp, Bool.false_and]
set_option maxRecDepth 100000 in
set_option maxHeartbeats 4000000 in
theorem refAtW_calls (A : Option Addr) (c : Nat) (l : List Wrk) (s : ByteArray) (hs : sortW l) (w : World) (hC : kWrk.C w A l.length l) :
    Calls Tryz.prog 16 #[.slice A l.length c, .string s] w fun e w' => e = .returned (.int .i64 (atW l s)) ∧ w' = w := by
  have hlen : l.length ≤ 9223372036854775807 := hC.2.1
  have HC := Aside0.mk hC
  have HS := Aside0.mk hs
  clear hC hs
  go_enter Tryz.func16, Tryz.ntmps16
  go_wp2
  go_loop [5] (fun i => ∃ k : Nat, k ≤ l.length ∧ i = .int .i64 k ∧ (∀ j, j < k → (rdWrk l j).table ≠ s)) (fun i => l.length - (intOf i).toNat)
  case atStart => exact ⟨0, by omega, rfl, fun j hj => by omega⟩
  case round =>
    obtain ⟨k, hk, rfl, hno⟩ := hrel
    have HNo := Aside0.mk hno
    clear hno
    by_cases hlt : k < l.length
    · obtain ⟨ad, eA, d0, d1, d2⟩ := at_Wrk HC.out k hlt
      cases eA
      clear d1 d2
      by_cases hb : (rdWrk l k).table = s
      · have hat := atW_some HS.out hlt hb
        have HX := Aside0.mk (show atW l s = (k : Int) by unfold atW; rw [hat.1, hat.2]; rfl)
        have hq : ((rdWrk l k).table.toList == s.toList) = true := by rw [str_eqN]; exact decide_eq_true hb
        clear hb hat
        generalize (rdWrk l k).table = nm at *
        go_wp2
        go_ret
        exact ⟨retI HX.out, rfl⟩
      · have HX := Aside0.mk (show ∀ j, j < k + 1 → (rdWrk l j).table ≠ s from fun j hj => by
          rcases Nat.lt_or_ge j k with h | h
          · exact HNo.out j h
          · have : j = k := by omega
            rw [this]; exact hb)
        have hq : ((rdWrk l k).table.toList == s.toList) = false := by rw [str_eqN]; exact decide_eq_false hb
        clear hb
        generalize (rdWrk l k).table = nm at *
        go_wp2
        go_round
        case rel => exact ⟨k + 1, by omega, by go_num, HX.out⟩
        case measure => simp [intOf]; omega
    · obtain rfl : k = l.length := by omega
      have HX := Aside0.mk (show atW l s = -1 by unfold atW; rw [hasW_none HNo.out]; rfl)
      go_wp2
      go_ret
      exact ⟨retI HX.out, rfl⟩
end Go.Proofs.YtmdofdaiepilbaaGreatDoor

/- chunk.Covers and the document's: whether a key is covered. Conditions: the works read so, sorted by their tables; few. -/
namespace Go.Proofs.YtmdofdaiepilbaaGreatDoor
open Go.RowKit Go.Proofs.YtmdofdaiepilbaaGreatDoorW.PrintWords
set_option linter.unusedVariables false
set_option linter.unusedSimpArgs false
/-- is a key covered by a work -/
def covX (x : Wrk) (k : ByteArray) : Bool := x.done || (!decide (x.key = ⟨#[]⟩) && !decide (ltS x.key k))
def covB (l : List Wrk) (s k : ByteArray) : Bool := hasW l s && covX (rdWrk l (posW l s)) k
theorem empty_dec (a : ByteArray) : a.toList.isEmpty = decide (a = ⟨#[]⟩) := by
  have h := str_eqN a ⟨#[]⟩
  rw [← h, ByteArray.toList_eq, ByteArray.toList_eq]
  cases a.data.toList <;> rfl
theorem leS_dec (a b : ByteArray) : (Op.bytesLess a.toList b.toList || a.toList == b.toList) = !decide (ltS b a) := by
  rw [less_dec, str_eqN]
  by_cases h1 : ltS a b
  · rw [decide_eq_true h1, decide_eq_false (fun h2 => ltS_irrefl _ (ltS_trans h1 h2))]; rfl
  · rw [decide_eq_false h1]
    by_cases h2 : a = b
    · subst h2; rw [decide_eq_false (ltS_irrefl _)]; simp
    · rw [decide_eq_false h2, decide_eq_true (ltS_of_not h1 h2)]; rfl
set_option maxRecDepth 100000 in
set_option maxHeartbeats 8000000 in
theorem covers_calls (A : Option Addr) (c : Nat) (l : List Wrk) (s k : ByteArray) (hs : sortW l) (w : World) (hC : kWrk.C w A l.length l) (hlen : l.length ≤ 1000000) :
    Calls Tryz.prog 58 #[.slice A l.length c, .string s, .string k] w fun e w' => e = .returned (.bool (covB l s k)) ∧ Below w.heap.size w w' := by
  have HAt := Aside0.mk (chAt_calls A c l s hs w hC hlen)
  cases hh : hasW l s
  · have HX := Aside0.mk (show covB l s k = false by unfold covB; rw [hh]; rfl)
    rw [hh] at HAt
    clear hh hs hC
    generalize posW l s = p at *
    go_enter Tryz.func58, Tryz.ntmps58
    go_wp2_with (go_at_call 80; (with_reducible refine (HAt.out).mono ?_); rintro e w1 ⟨rfl, hb1⟩)
    go_ret
    exact ⟨retB HX.out, hb1⟩
  · have hp : posW l s < l.length := by unfold hasW at hh; simp only [Bool.and_eq_true, decide_eq_true_eq] at hh; exact hh.1
    have HX := Aside0.mk (show covB l s k = ((rdWrk l (posW l s)).done || (!decide ((rdWrk l (posW l s)).key = ⟨#[]⟩) && !decide (ltS (rdWrk l (posW l s)).key k))) by unfold covB covX; rw [hh]; rfl)
    rw [hh] at HAt
    obtain ⟨ad, rfl, d0, d1, d2⟩ := at_Wrk hC (posW l s) hp
    have D := Aside0.mk (fun (W : World) (h : Below w.heap.size w W) => And.intro (pw_cell_below h d1) (pw_cell_below h d2))
    have h1 := leS_dec k (rdWrk l (posW l s)).key
    have h2 := empty_dec (rdWrk l (posW l s)).key
    clear hh hs hC d0 d1 d2
    generalize rdWrk l (posW l s) = x at *
    generalize posW l s = p at *
    obtain ⟨tb, dn, ky⟩ := x
    simp only at *
    generalize decide (ltS ky k) = b1 at *
    generalize decide (ky = ⟨#[]⟩) = b2 at *
    cases dn <;> cases b1 <;> cases b2
    all_goals try simp only [Bool.not_false, Bool.not_true] at h1
    all_goals
      go_enter Tryz.func58, Tryz.ntmps58
      go_wp2_with (go_at_call 80; (with_reducible refine (HAt.out).mono ?_); rintro e w1 ⟨rfl, hb1⟩; obtain ⟨c1, c2⟩ := D.out _ hb1; have HB1 := Aside0.mk hb1; clear hb1)
      go_ret
      exact ⟨retB HX.out, HB1.out⟩
set_option maxRecDepth 100000 in
set_option maxHeartbeats 8000000 in
theorem covers11_calls (A : Option Addr) (c : Nat) (l : List Wrk) (s k : ByteArray) (hs : sortW l) (w : World) (hC : kWrk.C w A l.length l) :
    Calls Tryz.prog 66 #[.slice A l.length c, .string s, .string k] w fun e w' => e = .returned (.bool (covB l s k)) ∧ w' = w := by
  have HAt := Aside0.mk (refAtW_calls A c l s hs w hC)
  cases hh : hasW l s
  · have HX := Aside0.mk (show covB l s k = false by unfold covB; rw [hh]; rfl)
    have hat : atW l s = -1 := by unfold atW; rw [hh]; rfl
    rw [hat] at HAt
    clear hh hs hC hat
    go_enter Tryz.func66, Tryz.ntmps66
    go_wp2_with (go_at_call 16; (with_reducible refine (HAt.out).mono ?_); rintro e w1 ⟨rfl, hw1⟩; have hw2 := hw1.symm; clear hw1; subst hw2)
    go_ret
    exact ⟨retB HX.out, rfl⟩
  · have hp : posW l s < l.length := by unfold hasW at hh; simp only [Bool.and_eq_true, decide_eq_true_eq] at hh; exact hh.1
    have HX := Aside0.mk (show covB l s k = ((rdWrk l (posW l s)).done || (!decide ((rdWrk l (posW l s)).key = ⟨#[]⟩) && !decide (ltS (rdWrk l (posW l s)).key k))) by unfold covB covX; rw [hh]; rfl)
    have hat : atW l s = (posW l s : Int) := by unfold atW; rw [hh]; rfl
    rw [hat] at HAt
    obtain ⟨ad, rfl, d0, d1, d2⟩ := at_Wrk hC (posW l s) hp
    have h1 := less_dec (rdWrk l (posW l s)).key k
    have h2 := empty_dec (rdWrk l (posW l s)).key
    clear hh hs hC d0 hat
    generalize rdWrk l (posW l s) = x at *
    generalize posW l s = p at *
    have hp0 : (0 : Int) ≤ (p : Int) := by omega
    obtain ⟨tb, dn, ky⟩ := x
    simp only at *
    generalize decide (ltS ky k) = b1 at *
    generalize decide (ky = ⟨#[]⟩) = b2 at *
    cases dn <;> cases b1 <;> cases b2
    all_goals
      go_enter Tryz.func66, Tryz.ntmps66
      go_wp2_with (go_at_call 16; (with_reducible refine (HAt.out).mono ?_); rintro e w1 ⟨rfl, hw1⟩; have hw2 := hw1.symm; clear hw1; subst hw2)
      go_ret
      exact ⟨retB HX.out, rfl⟩
end Go.Proofs.YtmdofdaiepilbaaGreatDoor

/- schema.Clone: a schema in memory of its own. Conditions: the columns read so; few columns. -/
namespace Go.Proofs.YtmdofdaiepilbaaGreatDoor
open Go.RowKit Go.Proofs.YtmdofdaiepilbaaGreatDoorW.PrintWords Go.Proofs.YtmdofdaiepilbaaGreatDoorW.PrintMore
set_option linter.unusedVariables false
set_option linter.unusedSimpArgs false
/-- a schema of the call's own is answered -/
def SchFresh (w : World) (l : List Col) (ks : Int) (e : Ending) (w' : World) : Prop := ∃ v, e = .returned (.agg #[v, .int .i64 ks]) ∧ kCol.R 51 w' w.heap.size (fun _ => True) v l ∧ Below w.heap.size w w'
theorem SchFresh.of {w w3 : World} {base g : Nat} {A3 : Option Addr} {c3 : Nat} {l : List Col} {ks : Int} (hR : kCol.R 51 w3 base (fun _ => True) (.slice A3 l.length c3) l) (hb : Below w.heap.size w w3) (hbase : w.heap.size ≤ base) (hg : g < base) (hgw : w.heap.size ≤ g) (u0 u1 : Value) :
    SchFresh w l ks (.returned (.agg #[.slice A3 l.length c3, .int .i64 ks])) ((w3.setCell ⟨g, 0, none⟩ u0).setCell ⟨g, 1, none⟩ u1) := by
  refine ⟨_, rfl, ?_, ?_⟩
  · refine Kd.R_lower (Kd.R_mono (Kd.R_step (Kd.R_bound hR) (fun k hk _ => ?_)) (fun _ _ => trivial)) hbase
    have h1 : k ≠ g := by have := hk.2.1; omega
    exact (heap_setCell_other _ _ _ _ (by simpa using h1)).trans (heap_setCell_other _ _ _ _ (by simpa using h1))
  · exact (hb.setCell (p := ⟨g, 0, none⟩) hgw u0).setCell (p := ⟨g, 1, none⟩) hgw u1
set_option maxRecDepth 100000 in
set_option maxHeartbeats 8000000 in
theorem sclone_calls (A : Option Addr) (c : Nat) (l : List Col) (ks : Int) (w : World) (hC : kCol.C w A l.length l) (hlen : l.length ≤ 1000000) :
    Calls Tryz.prog 77 #[.agg #[.slice A l.length c, .int .i64 ks]] w (SchFresh w l ks) := by
  have HCl := Aside0.mk (fun (W : World) (hb : Below w.heap.size w W) => cloneCol_calls A l.length c l W (Kd.C_below hC hb) (by omega))
  clear hC
  go_enter Tryz.func77, Tryz.ntmps77
  go_wp2
  have hb0 := below_alloc (below_alloc (Below.refl w.heap.size w) (.cells #[.slice A l.length c, .int .i64 ks] 43)) (.cells #[.slice none 0 0, .int .i64 0] 43)
  have x0 : ((w.alloc (.cells #[.slice A l.length c, .int .i64 ks] 43)).alloc (.cells #[.slice none 0 0, .int .i64 0] 43)).heap[w.heap.size]? = some (.cells #[.slice A l.length c, .int .i64 ks] 43 (0, 0)) := ((below_alloc (Below.refl _ _) _).block _ (by simp)).trans (heap_alloc_new _ _)
  have x1 := heap_alloc2 w (.cells #[.slice A l.length c, .int .i64 ks] 43) (.cells #[.slice none 0 0, .int .i64 0] 43)
  generalize (w.alloc (.cells #[.slice A l.length c, .int .i64 ks] 43)).alloc (.cells #[.slice none 0 0, .int .i64 0] 43) = W1 at *
  have c0 : W1.cell? ⟨w.heap.size, 0, none⟩ = some (.slice A l.length c) := cell_of_row W1 _ 0 _ _ _ x0
  have c1 : W1.cell? ⟨w.heap.size, 1, none⟩ = some (.int .i64 ks) := cell_of_row W1 _ 1 _ _ _ x0
  have HX1 := Aside0.mk x1
  have HB0 := Aside0.mk hb0
  have hle : w.heap.size ≤ W1.heap.size := hb0.size
  clear x0 x1 hb0
  go_region_held3 (fun W => W.cell? ⟨w.heap.size, 0, none⟩ = some (.slice A l.length c) ∧ W.cell? ⟨w.heap.size, 1, none⟩ = some (.int .i64 ks))
    (first | assumption | exact ⟨c0, c1⟩ | exact HS.out | go_keep)
    (first | (go_at_call 55; (with_reducible refine (HCl.out _ (bmore HB0.out ((Below.refl _ _).drew))).mono ?_); rintro e w3 ⟨v, rfl, hR, hb1⟩; obtain ⟨A3, c3, rfl⟩ := Kd.R_slice hR; have hb3 := bmore ((Below.refl W1.heap.size W1).drew) hb1; have HB3 := Aside0.mk hb3; have HR := Aside0.mk hR; have HS := Aside0.mk (And.intro (pw_cell_below hb3 c0) (pw_cell_below hb3 c1)); have hy := (hb3.block _ (Array.getElem?_eq_some_iff.1 HX1.out).1).trans HX1.out; have y0 := cell_of_row w3 _ 0 _ _ _ hy; have y1 := cell_of_row w3 _ 1 _ _ _ hy; have z0 := frozen_of_row w3 (w.heap.size + 1) 0 _ _ hy; have z1 := frozen_of_row w3 (w.heap.size + 1) 1 _ _ hy; have HY := Aside0.mk hy; clear hb1 hb3 hR hy))
  have HF := Aside0.mk (SchFresh.of (ks := ks) HR.out (bmore HB0.out HB3.out) (g := w.heap.size + 1) (by simp; omega) (by simp; have := (Array.getElem?_eq_some_iff.1 HX1.out).1; omega) (by omega) (.slice A3 l.length c3) (.int .i64 ks))
  go_wp2
  exact bodyPost_ret (v := .agg #[.slice A3 l.length c3, .int .i64 ks]) (by simp [results, Tryz.results77, go_sem, *]) rfl HF.out
end Go.Proofs.YtmdofdaiepilbaaGreatDoor

/- The document's At: the place of a table. Conditions: the tables read so, sorted by their names. -/
namespace Go.Proofs.YtmdofdaiepilbaaGreatDoor
open Go.RowKit Go.Proofs.YtmdofdaiepilbaaGreatDoorW.PrintWords
set_option linter.unusedVariables false
set_option linter.unusedSimpArgs false
/-- the place of a table; -1: it is not there -/
def atT (l : List Tab) (s : ByteArray) : Int := if hasT l s then (posT l s : Int) else -1
theorem atT_some {l : List Tab} {s : ByteArray} (hs : sortT l) {k : Nat} (hk : k < l.length) (h : (rdTab l k).name = s) : posT l s = k ∧ hasT l s = true := by
  have hp : posT l s = k := posT_of (by omega) (fun j hj => by rw [← h]; exact sortT_lt hs hj hk) (fun j h1 h2 h3 => by
    rcases Nat.lt_or_ge k j with h4 | h4
    · rw [← h] at h3; exact ltS_irrefl _ (ltS_trans (sortT_lt hs h4 h2) h3)
    · have : j = k := by omega
      rw [this, h] at h3; exact ltS_irrefl _ h3)
  refine ⟨hp, ?_⟩
  unfold hasT
  rw [hp, decide_eq_true hk, decide_eq_true h]
  rfl
theorem hasT_none {l : List Tab} {s : ByteArray} (h : ∀ j, j < l.length → (rdTab l j).name ≠ s) : hasT l s = false := by
  unfold hasT
  by_cases hp : posT l s < l.length
  · rw [decide_eq_false (h _ hp), Bool.and_false]
  · rw [decide_eq_false hp, Bool.false_and]
set_option maxRecDepth 100000 in
set_option maxHeartbeats 4000000 in
theorem refAt_calls (A : Option Addr) (c : Nat) (l : List Tab) (s : ByteArray) (hs : sortT l) (w : World) (hC : kTab.C w A l.length l) :
    Calls Tryz.prog 48 #[.slice A l.length c, .string s] w fun e w' => e = .returned (.int .i64 (atT l s)) ∧ w' = w := by
  have hlen : l.length ≤ 9223372036854775807 := hC.2.1
  have HC := Aside0.mk hC
  have HS := Aside0.mk hs
  clear hC hs
  go_enter Tryz.func48, Tryz.ntmps48
  go_wp2
  go_loop [5] (fun i => ∃ k : Nat, k ≤ l.length ∧ i = .int .i64 k ∧ (∀ j, j < k → (rdTab l j).name ≠ s)) (fun i => l.length - (intOf i).toNat)
  case atStart => exact ⟨0, by omega, rfl, fun j hj => by omega⟩
  case round =>
    obtain ⟨k, hk, rfl, hno⟩ := hrel
    have HNo := Aside0.mk hno
    clear hno
    by_cases hlt : k < l.length
    · obtain ⟨ad, A1, c1, eA, d0, d1, d2, _, _⟩ := at_Tab HC.out k hlt
      cases eA
      clear d1 d2
      by_cases hb : (rdTab l k).name = s
      · have hat := atT_some HS.out hlt hb
        have HX := Aside0.mk (show atT l s = (k : Int) by unfold atT; rw [hat.1, hat.2]; rfl)
        have hq : ((rdTab l k).name.toList == s.toList) = true := by rw [str_eqN]; exact decide_eq_true hb
        clear hb hat
        generalize (rdTab l k).name = nm at *
        go_wp2
        go_ret
        exact ⟨retI HX.out, rfl⟩
      · have HX := Aside0.mk (show ∀ j, j < k + 1 → (rdTab l j).name ≠ s from fun j hj => by
          rcases Nat.lt_or_ge j k with h | h
          · exact HNo.out j h
          · have : j = k := by omega
            rw [this]; exact hb)
        have hq : ((rdTab l k).name.toList == s.toList) = false := by rw [str_eqN]; exact decide_eq_false hb
        clear hb
        generalize (rdTab l k).name = nm at *
        go_wp2
        go_round
        case rel => exact ⟨k + 1, by omega, by go_num, HX.out⟩
        case measure => simp [intOf]; omega
    · obtain rfl : k = l.length := by omega
      have HX := Aside0.mk (show atT l s = -1 by unfold atT; rw [hasT_none HNo.out]; rfl)
      go_wp2
      go_ret
      exact ⟨retI HX.out, rfl⟩
end Go.Proofs.YtmdofdaiepilbaaGreatDoor

/- event.Find: a table's schema, in memory of its own. Conditions: the tables read so, sorted by their names; few columns. -/
namespace Go.Proofs.YtmdofdaiepilbaaGreatDoor
open Go.RowKit Go.Proofs.YtmdofdaiepilbaaGreatDoorW.PrintWords Go.Proofs.YtmdofdaiepilbaaGreatDoorW.PrintMore
set_option linter.unusedVariables false
set_option linter.unusedSimpArgs false
/-- the schema of a table; nothing: it is not there -/
def schT (l : List Tab) (s : ByteArray) : Sch := if hasT l s then (rdTab l (posT l s)).schema else zSch
def FindTell (w : World) (l : List Tab) (s : ByteArray) (e : Ending) (w' : World) : Prop := ∃ v, e = .returned (.tuple #[.agg #[v, .int .i64 (schT l s).keys], .bool (hasT l s)]) ∧ kCol.R 51 w' w.heap.size (fun _ => True) v (schT l s).cols ∧ Below w.heap.size w w'
theorem FindTell.set {w w3 : World} {base g : Nat} {v : Value} {l : List Tab} {s : ByteArray} (hR : kCol.R 51 w3 base (fun _ => True) v (schT l s).cols) (hb : Below w.heap.size w w3) (hbase : w.heap.size ≤ base) (hg : g < base) (hgw : w.heap.size ≤ g) (u0 u1 : Value) :
    FindTell w l s (.returned (.tuple #[.agg #[v, .int .i64 (schT l s).keys], .bool (hasT l s)])) ((w3.setCell ⟨g, 0, none⟩ u0).setCell ⟨g, 1, none⟩ u1) := by
  refine ⟨_, rfl, ?_, ?_⟩
  · refine Kd.R_lower (Kd.R_mono (Kd.R_step (Kd.R_bound hR) (fun k hk _ => ?_)) (fun _ _ => trivial)) hbase
    have h1 : k ≠ g := by have := hk.2.1; omega
    exact (heap_setCell_other _ _ _ _ (by simpa using h1)).trans (heap_setCell_other _ _ _ _ (by simpa using h1))
  · exact (hb.setCell (p := ⟨g, 0, none⟩) hgw u0).setCell (p := ⟨g, 1, none⟩) hgw u1
def fewC (l : List Tab) : Prop := ∀ t ∈ l, t.schema.cols.length ≤ 1000000
theorem hasT_lt {l : List Tab} {s : ByteArray} (h : hasT l s = true) : posT l s < l.length ∧ (rdTab l (posT l s)).name = s := by
  unfold hasT at h
  simp only [Bool.and_eq_true, decide_eq_true_eq] at h
  exact h
set_option maxRecDepth 100000 in
set_option maxHeartbeats 8000000 in
theorem evFind_calls (A : Option Addr) (c : Nat) (l : List Tab) (s : ByteArray) (hs : sortT l) (w : World) (hC : kTab.C w A l.length l) (hlen : l.length ≤ 1000000) (hfew : fewC l) :
    Calls Tryz.prog 56 #[.slice A l.length c, .string s] w (FindTell w l s) := by
  have HB0 := Aside0.mk (show Below w.heap.size w (w.alloc (.cells #[.slice none 0 0, .int .i64 0] 43)) from below_alloc (Below.refl _ _) _)
  have HAt := Aside0.mk (evAt_calls A c l s hs (w.alloc (.cells #[.slice none 0 0, .int .i64 0] 43)) (Kd.C_below hC HB0.out) hlen)
  cases hh : hasT l s
  · have HE := Aside0.mk (show schT l s = zSch by unfold schT; rw [hh]; rfl)
    have HH := Aside0.mk hh
    rw [hh] at HAt
    clear hh hs hC hfew
    generalize posT l s = p at *
    go_enter Tryz.func56, Tryz.ntmps56
    go_wp2_with (go_at_call 61; (with_reducible refine (HAt.out).mono ?_); rintro e w1 ⟨rfl, hb1⟩; have HB1 := Aside0.mk hb1; have hx := (hb1.block w.heap.size (by simp)).trans (heap_alloc_new _ _); have c0 := cell_of_row w1 _ 0 _ _ _ hx; have c1 := cell_of_row w1 _ 1 _ _ _ hx; have z0 := frozen_of_row w1 w.heap.size 0 _ _ hx; have z1 := frozen_of_row w1 w.heap.size 1 _ _ hx; clear hb1 hx)
    refine bodyPost_ret (v := .tuple #[.agg #[.slice none 0 0, .int .i64 0], .bool false]) (by simp [results, Tryz.results56, go_sem, *]) rfl ?_
    have hF := FindTell.set (w := w) (w3 := w1) (g := w.heap.size) (l := l) (s := s) (v := .slice none 0 0) (base := w.heap.size + 1) (by rw [HE.out]; exact Kd.R_nil _ _ _ _ _) (bmore HB0.out HB1.out) (by omega) (by omega) (by omega) (.slice none 0 0) (.int .i64 0)
    rw [HE.out, HH.out] at hF
    exact hF
  · have HH := Aside0.mk hh
    obtain ⟨hp, hn⟩ := hasT_lt hh
    have HE := Aside0.mk (show schT l s = (rdTab l (posT l s)).schema by unfold schT; rw [hh]; rfl)
    rw [hh] at HAt
    obtain ⟨ad, A1, c1, eA, d0, d1, d2, l1, g1⟩ := at_Tab hC (posT l s) hp
    subst eA
    have hfc : (rdTab l (posT l s)).schema.cols.length ≤ 1000000 := by rw [rdTab_get hp]; exact hfew _ (List.getElem_mem hp)
    have HCl := Aside0.mk (fun (W : World) (hb : Below w.heap.size w W) => sclone_calls A1 c1 (rdTab l (posT l s)).schema.cols (rdTab l (posT l s)).schema.keys W (Kd.C_below g1 hb) hfc)
    have hp' : ((posT l s : Nat) : Int) < (l.length : Int) := by omega
    have HD := Aside0.mk (And.intro d1 d2)
    clear hh hs hC hfew hn d0 d1 d2 g1 l1 hfc
    generalize (rdTab l (posT l s)).schema = sc at *
    generalize posT l s = p at *
    go_enter Tryz.func56, Tryz.ntmps56
    go_wp2_with (first
      | (go_at_call 61; (with_reducible refine (HAt.out).mono ?_); rintro e w1 ⟨rfl, hb1⟩; have HB1 := Aside0.mk (bmore HB0.out hb1); have HBa := Aside0.mk hb1; have k1 := pw_cell_below HB1.out HD.out.1; have k2 := pw_cell_below HB1.out HD.out.2; clear hb1)
      | (go_at_call 77; (with_reducible refine (HCl.out _ HB1.out).mono ?_); rintro e w2 ⟨v, rfl, hR, hb2⟩; obtain ⟨A3, c3, rfl⟩ := Kd.R_slice hR; have HR := Aside0.mk hR; have HB2 := Aside0.mk hb2; have hx := ((bmore HBa.out hb2).block w.heap.size (by simp)).trans (heap_alloc_new _ _); have c0 := cell_of_row w2 _ 0 _ _ _ hx; have c1 := cell_of_row w2 _ 1 _ _ _ hx; have z0 := frozen_of_row w2 w.heap.size 0 _ _ hx; have z1 := frozen_of_row w2 w.heap.size 1 _ _ hx; clear hb2 hx hR))
    refine bodyPost_ret (v := .tuple #[.agg #[.slice A3 sc.cols.length c3, .int .i64 sc.keys], .bool true]) (by simp [results, Tryz.results56, go_sem, *]) rfl ?_
    have hF := FindTell.set (w := w) (w3 := w2) (g := w.heap.size) (l := l) (s := s) (by rw [HE.out]; exact HR.out) (bmore HB1.out HB2.out) (by have := HBa.out.size; simp at this; omega) (by have := HBa.out.size; simp at this; omega) (by omega) (.slice A3 sc.cols.length c3) (.int .i64 sc.keys)
    rw [HE.out, HH.out] at hF
    exact hF
end Go.Proofs.YtmdofdaiepilbaaGreatDoor

/- The document's Find: a table's schema, as it is read. Conditions: the tables read so, sorted by their names. -/
namespace Go.Proofs.YtmdofdaiepilbaaGreatDoor
open Go.RowKit Go.Proofs.YtmdofdaiepilbaaGreatDoorW.PrintWords Go.Proofs.YtmdofdaiepilbaaGreatDoorW.PrintMore
set_option linter.unusedVariables false
set_option linter.unusedSimpArgs false
def FindRead (w : World) (l : List Tab) (s : ByteArray) (e : Ending) (w' : World) : Prop := ∃ A1 c1, e = .returned (.tuple #[.agg #[.slice A1 (schT l s).cols.length c1, .int .i64 (schT l s).keys], .bool (hasT l s)]) ∧ (schT l s).cols.length ≤ c1 ∧ kCol.C w' A1 (schT l s).cols.length (schT l s).cols ∧ Below w.heap.size w w'
set_option maxRecDepth 100000 in
set_option maxHeartbeats 8000000 in
theorem refFind_calls (A : Option Addr) (c : Nat) (l : List Tab) (s : ByteArray) (hs : sortT l) (w : World) (hC : kTab.C w A l.length l) :
    Calls Tryz.prog 43 #[.slice A l.length c, .string s] w (FindRead w l s) := by
  have HAt := Aside0.mk (fun (W : World) (hb : Below w.heap.size w W) => refAt_calls A c l s hs W (Kd.C_below hC hb))
  cases hh : hasT l s
  · have HE := Aside0.mk (show schT l s = zSch by unfold schT; rw [hh]; rfl)
    have HH := Aside0.mk hh
    have hat : atT l s = -1 := by unfold atT; rw [hh]; rfl
    rw [hat] at HAt
    clear hat hh hs hC
    go_enter Tryz.func43, Tryz.ntmps43
    go_wp2_with (go_at_call 48; (with_reducible refine (HAt.out _ (by first | exact Below.refl _ _ | exact below_alloc (Below.refl _ _) _)).mono ?_); rintro e w1 ⟨rfl, hw1⟩; have hw2 := hw1.symm; clear hw1; subst hw2)
    refine bodyPost_ret (v := .tuple #[.agg #[.slice none 0 0, .int .i64 0], .bool false]) (by simp [results, Tryz.results43, go_sem]) rfl ?_
    refine ⟨none, 0, by rw [HE.out, HH.out]; rfl, by rw [HE.out]; exact Nat.le_refl _, by rw [HE.out]; exact ⟨rfl, by decide, fun h => absurd h (by decide)⟩, below_alloc (Below.refl _ _) _⟩
  · have HH := Aside0.mk hh
    obtain ⟨hp, hn⟩ := hasT_lt hh
    have HE := Aside0.mk (show schT l s = (rdTab l (posT l s)).schema by unfold schT; rw [hh]; rfl)
    have hat : atT l s = (posT l s : Int) := by unfold atT; rw [hh]; rfl
    rw [hat] at HAt
    obtain ⟨ad, A1, c1, eA, d0, d1, d2, l1, g1⟩ := at_Tab hC (posT l s) hp
    subst eA
    have hp' : ((posT l s : Nat) : Int) < (l.length : Int) := by omega
    have hp0 : decide (((posT l s : Nat) : Int) < 0) = false := decide_eq_false (by omega)
    have HG := Aside0.mk g1
    have HL := Aside0.mk l1
    clear hat hh hs hC hn d0 g1 l1
    generalize (rdTab l (posT l s)).schema = sc at *
    generalize posT l s = p at *
    go_enter Tryz.func43, Tryz.ntmps43
    go_wp2_with (go_at_call 48; (with_reducible refine (HAt.out _ (by first | exact Below.refl _ _ | exact below_alloc (Below.refl _ _) _)).mono ?_); rintro e w1 ⟨rfl, hw1⟩; have hw2 := hw1.symm; clear hw1; subst hw2; have k1 := pw_cell_below (below_alloc (Below.refl w.heap.size w) (.cells #[.slice none 0 0, .int .i64 0] 43)) d1; have k2 := pw_cell_below (below_alloc (Below.refl w.heap.size w) (.cells #[.slice none 0 0, .int .i64 0] 43)) d2)
    refine bodyPost_ret (v := .tuple #[.agg #[.slice A1 sc.cols.length c1, .int .i64 sc.keys], .bool true]) (by simp [results, Tryz.results43, go_sem]) rfl ?_
    exact ⟨A1, c1, by rw [HE.out, HH.out], by rw [HE.out]; exact HL.out, by rw [HE.out]; exact Kd.C_below HG.out (below_alloc (Below.refl _ _) _), below_alloc (Below.refl _ _) _⟩
end Go.Proofs.YtmdofdaiepilbaaGreatDoor

/- The document's Add of works: works with one more, in memory of their own. Conditions: the works read so, sorted by their tables; few. -/
namespace Go.Proofs.YtmdofdaiepilbaaGreatDoor
open Go.RowKit Go.Proofs.YtmdofdaiepilbaaGreatDoorW.PrintWords
set_option linter.unusedVariables false
set_option linter.unusedSimpArgs false
def addE (l : List Wrk) (s : ByteArray) : Int := if nameB s then (if hasW l s then 8 else 0) else 6
def addW (l : List Wrk) (s : ByteArray) : List Wrk := l.take (posW l s) ++ [⟨s, false, ⟨#[]⟩⟩] ++ l.drop (posW l s)
def AddTell (w : World) (l : List Wrk) (s : ByteArray) (e : Ending) (w' : World) : Prop := ∃ v, e = .returned (.tuple #[v, .int .i64 (addE l s)]) ∧ Own kWrk 47 w' w.heap.size v (if addE l s = 0 then addW l s else []) ∧ Below w.heap.size w w'
theorem AddTell.bad {w w' : World} {l : List Wrk} {s : ByteArray} {x : Int} (h : addE l s = x) (hx : x ≠ 0) (hb : Below w.heap.size w w') : AddTell w l s (.returned (.tuple #[.slice none 0 0, .int .i64 x])) w' := ⟨_, by rw [h], by rw [h, if_neg hx]; exact Own.nil _ _ _ _, hb⟩
theorem AddTell.good {w w' : World} {l : List Wrk} {s : ByteArray} {v : Value} (h : addE l s = 0) (hO : Own kWrk 47 w' w.heap.size v (addW l s)) (hb : Below w.heap.size w w') : AddTell w l s (.returned (.tuple #[v, .int .i64 0])) w' := ⟨_, by rw [h], by rw [h, if_pos rfl]; exact hO, hb⟩
theorem posW_le (l : List Wrk) (s : ByteArray) : posW l s ≤ l.length := List.countP_le_length
/-- ahead of its place all tables are less -/
theorem posW_lt {l : List Wrk} (hs : sortW l) {s : ByteArray} {k : Nat} (hk : k < posW l s) : ltS (rdWrk l k).table s := by
  by_cases h : ltS (rdWrk l k).table s
  · exact h
  · exfalso
    have hl := posW_le l s
    -- k and all behind it are not less: their number is at most k
    have e : posW l s = (l.take k).countP (fun t => decide (ltS t.table s)) + (l.drop k).countP (fun t => decide (ltS t.table s)) := by unfold posW; rw [← List.countP_append, List.take_append_drop]
    have e2 : (l.drop k).countP (fun t => decide (ltS t.table s)) = 0 := by
      rw [List.countP_eq_zero]
      intro a ha
      obtain ⟨j, hj, rfl⟩ := List.mem_iff_getElem.1 ha
      rw [List.length_drop] at hj
      rw [List.getElem_drop, ← rdWrk_get (by omega)]
      have hn : ¬ ltS (rdWrk l (k + j)).table s := fun h2 => by
        rcases Nat.eq_zero_or_pos j with h3 | h3
        · subst h3; exact h h2
        · exact h (ltS_trans (sortW_lt hs (by omega) (by omega)) h2)
      simpa using hn
    have e1 := List.countP_le_length (p := fun t : Wrk => decide (ltS t.table s)) (l := l.take k)
    rw [List.length_take] at e1
    omega
theorem posW_ge {l : List Wrk} (hs : sortW l) {s : ByteArray} (hp : posW l s < l.length) : ¬ ltS (rdWrk l (posW l s)).table s := fun h => by
  have h2 : posW l s = (l.take (posW l s + 1)).countP (fun t => decide (ltS t.table s)) + (l.drop (posW l s + 1)).countP (fun t => decide (ltS t.table s)) := by
    rw [← List.countP_append, List.take_append_drop]; rfl
  have e1 : (l.take (posW l s + 1)).countP (fun t => decide (ltS t.table s)) = (l.take (posW l s + 1)).length := by
    rw [List.countP_eq_length]
    intro a ha
    obtain ⟨j, hj, rfl⟩ := List.mem_iff_getElem.1 ha
    rw [List.length_take] at hj
    rw [List.getElem_take, ← rdWrk_get (by omega)]
    rcases Nat.lt_or_ge j (posW l s) with h3 | h3
    · exact decide_eq_true (posW_lt hs h3)
    · have : j = posW l s := by omega
      rw [this]; exact decide_eq_true h
  rw [List.length_take] at e1
  omega
set_option maxRecDepth 100000 in
set_option maxHeartbeats 8000000 in
theorem addW_calls (A : Option Addr) (c : Nat) (l : List Wrk) (s : ByteArray) (hs : sortW l) (hlen : l.length ≤ 100000) (hc : l.length ≤ c) (w : World) (hC : kWrk.C w A l.length l) :
    Calls Tryz.prog 24 #[.slice A l.length c, .string s] w (AddTell w l s) := by
  have HN := Aside0.mk (name04_calls s)
  have HAt := Aside0.mk (refAtW_calls A c l s hs w hC)
  cases hn : nameB s
  · have HE := Aside0.mk (show addE l s = 6 by unfold addE; rw [hn]; rfl)
    rw [hn] at HN
    clear hn hs hC
    go_enter Tryz.func24, Tryz.ntmps24
    go_wp2_with (go_at_call 23; (with_reducible refine (HN.out _).mono ?_); rintro e w1 ⟨rfl, hw1⟩; have hw2 := hw1.symm; clear hw1; subst hw2)
    exact bodyPost_ret (v := .tuple #[.slice none 0 0, .int .i64 6]) (by simp [results, Tryz.results24, go_sem]) rfl (AddTell.bad HE.out (by decide) (Below.refl _ _))
  cases hh : hasW l s
  case true =>
    have HE := Aside0.mk (show addE l s = 8 by unfold addE; rw [hn, hh]; rfl)
    have hat : atW l s = (posW l s : Int) := by unfold atW; rw [hh]; rfl
    rw [hn] at HN
    rw [hat] at HAt
    generalize posW l s = p at *
    have hp : (0 : Int) ≤ (p : Int) := by omega
    clear hn hs hC hat hh
    go_enter Tryz.func24, Tryz.ntmps24
    go_wp2_with (first
      | (go_at_call 23; (with_reducible refine (HN.out _).mono ?_); rintro e w1 ⟨rfl, hw1⟩; have hw2 := hw1.symm; clear hw1; subst hw2)
      | (go_at_call 16; (with_reducible refine (HAt.out).mono ?_); rintro e w1 ⟨rfl, hw1⟩; have hw2 := hw1.symm; clear hw1; subst hw2))
    exact bodyPost_ret (v := .tuple #[.slice none 0 0, .int .i64 8]) (by simp [results, Tryz.results24, go_sem]) rfl (AddTell.bad HE.out (by decide) (Below.refl _ _))
  have HE := Aside0.mk (show addE l s = 0 by unfold addE; rw [hn, hh]; rfl)
  have hat : atW l s = -1 := by unfold atW; rw [hh]; rfl
  rw [hn] at HN
  rw [hat] at HAt
  have HLt := Aside0.mk (fun k (hk : k < posW l s) => posW_lt hs hk)
  have HGe := Aside0.mk (fun (hp : posW l s < l.length) => posW_ge hs hp)
  have hple := posW_le l s
  have HG := Aside0.mk (fun (v : Value) (w' : World) (hO : Own kWrk 47 w' w.heap.size v (l.take (posW l s) ++ [⟨s, false, ⟨#[]⟩⟩] ++ l.drop (posW l s))) (hb : Below w.heap.size w w') => AddTell.good HE.out hO hb)
  have HC := Aside0.mk hC
  clear hn hs hC hat hh HE
  generalize posW l s = p at *
  go_enter Tryz.func24, Tryz.ntmps24
  go_wp2_with (first
    | (go_at_call 23; (with_reducible refine (HN.out _).mono ?_); rintro e w1 ⟨rfl, hw1⟩; have hw2 := hw1.symm; clear hw1; subst hw2)
    | (go_at_call 16; (with_reducible refine (HAt.out).mono ?_); rintro e w1 ⟨rfl, hw1⟩; have hw2 := hw1.symm; clear hw1; subst hw2))
  go_loop [7] (fun i => ∃ k : Nat, k ≤ p ∧ i = .int .i64 k) (fun i => l.length - (intOf i).toNat)
  case atStart => exact ⟨0, by omega, rfl⟩
  case round =>
    obtain ⟨k, hk, rfl⟩ := hrel
    rcases Nat.lt_or_ge k p with hkp | hkp
    · obtain ⟨ad, eA, d0, d1, d2⟩ := at_Wrk HC.out k (by omega)
      cases eA
      have hlt : k < l.length := by omega
      have hq := less_dec (rdWrk l k).table s
      rw [decide_eq_true (HLt.out k hkp)] at hq
      clear d1 d2
      generalize (rdWrk l k).table = nm at *
      go_wp2
      go_round
      case rel => exact ⟨k + 1, by omega, by go_num⟩
      case measure => simp [intOf]; omega
    · obtain rfl : p = k := by omega
      have hx : (¬ p < l.length) ∨ (p < l.length ∧ ∃ ad, A = some ad ∧ w.cell? (ad.add (p * 3)) = some (.string (rdWrk l p).table) ∧ Op.bytesLess (rdWrk l p).table.toList s.toList = false) := by
        by_cases h : p < l.length
        · obtain ⟨ad, eA, d0, d1, d2⟩ := at_Wrk HC.out p h
          exact .inr ⟨h, ad, eA, d0, by rw [less_dec]; exact decide_eq_false (HGe.out h)⟩
        · exact .inl h
      have s1 := head_Wrk A l.length c p (by omega)
      have s2 := tail_Wrk A l.length c p hple hc
      have HX := Aside0.mk (Kd.C_F heap_Wrk (take_C HC.out hple))
      have HY := Aside0.mk (Kd.C_F heap_Wrk (drop_C HC.out hple hc))
      have hxl : (l.take p).length = p := by rw [List.length_take]; omega
      change Aside0 (Kd.F kWrk w (fun k => k < w.heap.size) (tailA A c p 3) (l.length - p) (l.drop p)) at HY
      generalize tailA A c p 3 = A' at *
      generalize l.drop p = Y at *
      generalize l.take p = X at *
      generalize (rdWrk l p).table = nm at *
      obtain ⟨X2, hX2⟩ : ∃ X2, X ++ [⟨s, false, ⟨#[]⟩⟩] = X2 := ⟨_, rfl⟩
      have hx2l : X2.length = p + 1 := by rw [← hX2]; simp; omega
      rw [hX2] at HG
      have HX2 := Aside0.mk hX2
      have HXL := Aside0.mk hxl
      have HX2L := Aside0.mk hx2l
      clear hX2 hxl hx2l
      rcases hx with hx | ⟨hx, ad, rfl, d0, hq⟩
      all_goals
        go_wp2_with (first
          | (at_builtin; refine pushAllWrk (w0 := w) w.heap.size rfl (.tmp 32) (.tmp 35) rfl (.slice none 0 0) [] X _ p c (fun k => k < w.heap.size) rfl rfl HX.out (fun k _ => by simp [Value.ownBlock]) (Own.nil _ _ _ _) (Below.refl _ _) (Nat.le_refl _) (by simp; omega) ?_; intro v1 w1 hN1 hb1; rw [List.nil_append] at hN1; obtain ⟨A1, c1, rfl, _, _⟩ := hN1.slice; have HN1 := Aside0.mk hN1; have HB1 := Aside0.mk hb1; clear hN1 hb1)
          | (at_builtin; refine pushWrk (w0 := w) (W := w1) w.heap.size rfl (.tmp 37) (.tmp 40) rfl (.slice A1 X.length c1) X ⟨s, false, ⟨#[]⟩⟩ [.string s, .bool false, .string ⟨#[]⟩] (fun _ => False) rfl rfl (fk_Wrk _ _ ⟨s, false, ⟨#[]⟩⟩) (fun k h => h.elim) HN1.out HB1.out HB1.out.size (by rw [HXL.out]; omega) ?_; intro v2 w2 hN2 hb2; rw [HX2.out] at hN2; obtain ⟨A2, c2, rfl, _, _⟩ := hN2.slice; have HN2 := Aside0.mk hN2; have HB2 := Aside0.mk hb2; clear hN2 hb2)
          | (at_builtin; refine pushAllWrk (w0 := w) (W := w2) w.heap.size rfl (.tmp 42) (.tmp 45) rfl (.slice A2 X2.length c2) X2 Y A' (l.length - p) (c - p) (fun k => k < w.heap.size) rfl rfl (Kd.F_step HY.out (fun k hk _ => HB2.out.block k hk)) (HN2.out.lt (fun k hk => hk)) HN2.out HB2.out HB2.out.size (by rw [HX2L.out]; omega) ?_; intro v3 w3 hN3 hb3))
        exact bodyPost_ret (v := .tuple #[v3, .int .i64 0]) (by simp [results, Tryz.results24, go_sem]) rfl (HG.out _ _ hN3 hb3)
end Go.Proofs.YtmdofdaiepilbaaGreatDoor
