/- The document's Follow: tables behind a Create. Conditions: the tables read so, sorted by their names; few. -/
import Derived.Test.YtmdofdaiepilbaaGreatDoorGEvAt
import Derived.Test.YtmdofdaiepilbaaGreatDoorGName
import Derived.Test.YtmdofdaiepilbaaGreatDoorGPush
import Derived.Outline
namespace Go.Proofs.YtmdofdaiepilbaaGreatDoor
open Go.RowKit Go.Proofs.YtmdofdaiepilbaaGreatDoorW.PrintWords
set_option linter.unusedVariables false
set_option linter.unusedSimpArgs false
theorem posT_le (l : List Tab) (s : ByteArray) : posT l s ≤ l.length := List.countP_le_length
theorem posT_lt {l : List Tab} (hs : sortT l) {s : ByteArray} {k : Nat} (hk : k < posT l s) : ltS (rdTab l k).name s := by
  by_cases h : ltS (rdTab l k).name s
  · exact h
  · exfalso
    have hl := posT_le l s
    have e : posT l s = (l.take k).countP (fun t => decide (ltS t.name s)) + (l.drop k).countP (fun t => decide (ltS t.name s)) := by unfold posT; rw [← List.countP_append, List.take_append_drop]
    have e2 : (l.drop k).countP (fun t => decide (ltS t.name s)) = 0 := by
      rw [List.countP_eq_zero]
      intro a ha
      obtain ⟨j, hj, rfl⟩ := List.mem_iff_getElem.1 ha
      rw [List.length_drop] at hj
      rw [List.getElem_drop, ← rdTab_get (by omega)]
      have hn : ¬ ltS (rdTab l (k + j)).name s := fun h2 => by
        rcases Nat.eq_zero_or_pos j with h3 | h3
        · subst h3; exact h h2
        · exact h (ltS_trans (sortT_lt hs (by omega) (by omega)) h2)
      simpa using hn
    have e1 := List.countP_le_length (p := fun t : Tab => decide (ltS t.name s)) (l := l.take k)
    rw [List.length_take] at e1
    omega
theorem posT_ge {l : List Tab} (hs : sortT l) {s : ByteArray} (hp : posT l s < l.length) : ¬ ltS (rdTab l (posT l s)).name s := fun h => by
  have h2 : posT l s = (l.take (posT l s + 1)).countP (fun t => decide (ltS t.name s)) + (l.drop (posT l s + 1)).countP (fun t => decide (ltS t.name s)) := by
    rw [← List.countP_append, List.take_append_drop]; rfl
  have e1 : (l.take (posT l s + 1)).countP (fun t => decide (ltS t.name s)) = (l.take (posT l s + 1)).length := by
    rw [List.countP_eq_length]
    intro a ha
    obtain ⟨j, hj, rfl⟩ := List.mem_iff_getElem.1 ha
    rw [List.length_take] at hj
    rw [List.getElem_take, ← rdTab_get (by omega)]
    rcases Nat.lt_or_ge j (posT l s) with h3 | h3
    · exact decide_eq_true (posT_lt hs h3)
    · have : j = posT l s := by omega
      rw [this]; exact decide_eq_true h
  rw [List.length_take] at e1
  omega
/-- tables behind a change, or the error -/
def FolTell (w : World) (l : List Tab) (err : Int) (e : Ending) (w' : World) : Prop := ∃ v, e = .returned (.tuple #[v, .int .i64 err]) ∧ Own kTab 45 w' w.heap.size v (if err = 0 then l else []) ∧ Below w.heap.size w w'
theorem FolTell.bad {w w' : World} {l : List Tab} {x y : Int} (h : x = y) (hx : y ≠ 0) (hb : Below w.heap.size w w') : FolTell w l x (.returned (.tuple #[.slice none 0 0, .int .i64 y])) w' := by
  subst h
  exact ⟨_, rfl, by rw [if_neg hx]; exact Own.nil _ _ _ _, hb⟩
theorem FolTell.good {w w' : World} {l : List Tab} {x : Int} {v : Value} (h : x = 0) (hO : Own kTab 45 w' w.heap.size v l) (hb : Below w.heap.size w w') : FolTell w l x (.returned (.tuple #[v, .int .i64 0])) w' := by
  subst h
  exact ⟨_, rfl, by rw [if_pos rfl]; exact hO, hb⟩
def createE (l : List Tab) (c : Chg) : Int := if !nameB c.table then 6 else if hasT l c.table then 8 else if !mayB c.schema.cols c.schema.keys then 1 else if decide (64 ≤ l.length) then 13 else 0
def createT (l : List Tab) (c : Chg) : List Tab := l.take (posT l c.table) ++ [⟨c.table, c.schema⟩] ++ l.drop (posT l c.table)
set_option maxRecDepth 100000 in
set_option maxHeartbeats 8000000 in
theorem create06_calls (A : Option Addr) (c0 : Nat) (l : List Tab) (c : Chg) (hk1 : c.kind = 1) (D : Option Addr) (d : Nat) (hs : sortT l) (hlen : l.length ≤ 100000) (hc : l.length ≤ c0) (w : World) (hC : kTab.C w A l.length l) (hd : c.schema.cols.length ≤ d) (hD : kCol.C w D c.schema.cols.length c.schema.cols) :
    Calls Tryz.prog 28 #[.slice A l.length c0, .agg #[.int .i64 c.kind, .string c.table, .slice D c.schema.cols.length d, .int .i64 c.schema.keys, .string c.column.name, .int .i64 c.column.kind, .bool c.column.none]] w (FolTell w (createT l c) (createE l c)) := by
  obtain ⟨ck, tb, ⟨cols, ks⟩, ⟨cn, cnk, cnn⟩⟩ := c
  simp only at hk1 hd hD ⊢
  subst hk1
  have HN := Aside0.mk (name04_calls tb)
  have HAt := Aside0.mk (fun (W : World) (hb : Below w.heap.size w W) => refAt_calls A c0 l tb hs W (Kd.C_below hC hb))
  have HM := Aside0.mk (fun (W : World) (hb : Below w.heap.size w W) => may04_calls D d cols ks W (Kd.C_below hD hb))
  have hE : createE l ⟨1, tb, ⟨cols, ks⟩, ⟨cn, cnk, cnn⟩⟩ = if !nameB tb then 6 else if hasT l tb then 8 else if !mayB cols ks then 1 else if decide (64 ≤ l.length) then 13 else 0 := rfl
  have hat : atT l tb = if hasT l tb then (posT l tb : Int) else -1 := rfl
  have HG := Aside0.mk (fun (h : createE l ⟨1, tb, ⟨cols, ks⟩, ⟨cn, cnk, cnn⟩⟩ = 0) (v : Value) (w' : World) (hO : Own kTab 45 w' w.heap.size v (l.take (posT l tb) ++ [⟨tb, ⟨cols, ks⟩⟩] ++ l.drop (posT l tb))) (hb : Below w.heap.size w w') => FolTell.good (l := createT l ⟨1, tb, ⟨cols, ks⟩, ⟨cn, cnk, cnn⟩⟩) h hO hb)
  have HLt := Aside0.mk (fun k (hk : k < posT l tb) => posT_lt hs hk)
  have HGe := Aside0.mk (fun (hp : posT l tb < l.length) => posT_ge hs hp)
  have hple := posT_le l tb
  have HC := Aside0.mk hC
  have HD := Aside0.mk (Kd.C_F heap_Col hD)
  have q64 : decide ((l.length : Int) ≥ 64) = decide (64 ≤ l.length) := by
    by_cases h : 64 ≤ l.length
    · rw [decide_eq_true h, decide_eq_true (by omega)]
    · rw [decide_eq_false h, decide_eq_false (by omega)]
  generalize createE l ⟨1, tb, ⟨cols, ks⟩, ⟨cn, cnk, cnn⟩⟩ = E at *
  generalize createT l ⟨1, tb, ⟨cols, ks⟩, ⟨cn, cnk, cnn⟩⟩ = L at *
  generalize posT l tb = p at *
  have hp0 : (0 : Int) ≤ (p : Int) := by omega
  rw [hat] at HAt
  clear hat hC hD hs
  have hW : Below w.heap.size w (w.alloc (.cells #[.int .i64 1, .string tb, .slice D cols.length d, .int .i64 ks, .string cn, .int .i64 cnk, .bool cnn] 53)) := below_alloc (Below.refl _ _) _
  have h0 : (w.alloc (.cells #[.int .i64 1, .string tb, .slice D cols.length d, .int .i64 ks, .string cn, .int .i64 cnk, .bool cnn] 53)).heap[w.heap.size]? = some (.cells #[.int .i64 1, .string tb, .slice D cols.length d, .int .i64 ks, .string cn, .int .i64 cnk, .bool cnn] 53 (0, 0)) := heap_alloc_new _ _
  go_enter Tryz.func28, Tryz.ntmps28
  go_upto_region 1 with fail
  generalize w.alloc (.cells #[.int .i64 1, .string tb, .slice D cols.length d, .int .i64 ks, .string cn, .int .i64 cnk, .bool cnn] 53) = W0 at *
  have H0 := Aside0.mk h0
  have HW := Aside0.mk hW
  clear h0 hW
  have a0 : W0.cell? ⟨w.heap.size, 0, none⟩ = some (.int .i64 1) := cell_of_row _ _ 0 _ _ _ H0.out
  have a1 : W0.cell? ⟨w.heap.size, 1, none⟩ = some (.string tb) := cell_of_row _ _ 1 _ _ _ H0.out
  have a2 : W0.cell? ⟨w.heap.size, 2, none⟩ = some (.slice D cols.length d) := cell_of_row _ _ 2 _ _ _ H0.out
  have a3 : W0.cell? ⟨w.heap.size, 3, none⟩ = some (.int .i64 ks) := cell_of_row _ _ 3 _ _ _ H0.out
  have HK := Aside0.mk (fun (W : World) (hb : Below W0.heap.size W0 W) => And.intro (pw_cell_below hb a1) (And.intro (pw_cell_below hb a2) (pw_cell_below hb a3)))
  cases hbn : nameB tb <;> cases hbh : hasT l tb <;> cases hbm : mayB cols ks <;> cases hbl : decide (64 ≤ l.length)
  all_goals
    rw [hbn, hbh, hbm, hbl] at hE
    rw [hbn] at HN
    rw [hbh] at HAt
    rw [hbm] at HM
    rw [hbl] at q64
    have HE := Aside0.mk hE
    clear hE hbn hbh hbm hbl
  all_goals try (
    go_wp2_with (first
      | (go_at_call 48; (with_reducible refine (HAt.out _ HW.out).mono ?_); rintro e w1 ⟨rfl, hw1⟩; have hw2 := hw1.symm; clear hw1; subst hw2)
      | (go_at_call 23; (with_reducible refine (HN.out _).mono ?_); rintro e w1 ⟨rfl, hw1⟩; have hw2 := hw1.symm; clear hw1; subst hw2)
      | (go_at_call 49; (with_reducible refine (HM.out _ HW.out).mono ?_); rintro e w1 ⟨rfl, hb1⟩; have HB1 := Aside0.mk hb1; clear hb1))
    exact bodyPost_ret (v := .tuple #[.slice none 0 0, .int .i64 _]) (by simp [results, Tryz.results28, go_sem]) rfl (FolTell.bad HE.out (by decide) (bmore HW.out HB1.out)))
  go_wp2_with (first
    | (go_at_call 48; (with_reducible refine (HAt.out _ HW.out).mono ?_); rintro e w1 ⟨rfl, hw1⟩; have hw2 := hw1.symm; clear hw1; subst hw2)
    | (go_at_call 23; (with_reducible refine (HN.out _).mono ?_); rintro e w1 ⟨rfl, hw1⟩; have hw2 := hw1.symm; clear hw1; subst hw2)
    | (go_at_call 49; (with_reducible refine (HM.out _ HW.out).mono ?_); rintro e w1 ⟨rfl, hb1⟩; have HB1 := Aside0.mk hb1; clear hb1))
  obtain ⟨k1, k2, k3⟩ := HK.out _ HB1.out
  have HWB := Aside0.mk (bmore HW.out HB1.out)
  have HW1 := Aside0.mk HWB.out
  go_loopw [10] (fun i wr => ∃ k : Nat, k ≤ p ∧ i = .int .i64 k ∧ Below w1.heap.size w1 wr) (fun i _ => l.length - (intOf i).toNat)
  case atStart => exact ⟨0, by omega, rfl, Below.refl _ _⟩
  case round =>
    obtain ⟨k, hk, rfl, hbr⟩ := hrel
    replace k1 := pw_cell_below hbr k1
    replace k2 := pw_cell_below hbr k2
    replace k3 := pw_cell_below hbr k3
    have HBR := Aside0.mk hbr
    have HWR := Aside0.mk (bmore HWB.out hbr)
    clear hbr
    rcases Nat.lt_or_ge k p with hkp | hkp
    · obtain ⟨ad, A1, c1, eA, d0, d1, d2, _, _⟩ := at_Tab HC.out k (by omega)
      cases eA
      replace d0 := pw_cell_below HWR.out d0
      have hlt : k < l.length := by omega
      have hq := less_dec (rdTab l k).name tb
      rw [decide_eq_true (HLt.out k hkp)] at hq
      clear d1 d2
      generalize (rdTab l k).name = nm at *
      go_wp2
      go_quiet (fail)
      go_wp2
      go_roundw
      case rel => exact ⟨k + 1, by omega, by go_num, bmore HBR.out (pw_below_drewN (Below.refl _ _) _)⟩
      case measure => simp [intOf]; omega
    · obtain rfl : p = k := by omega
      have hx : (¬ p < l.length) ∨ (p < l.length ∧ ∃ ad, A = some ad ∧ wr.cell? (ad.add (p * 3)) = some (.string (rdTab l p).name) ∧ Op.bytesLess (rdTab l p).name.toList tb.toList = false) := by
        by_cases h : p < l.length
        · obtain ⟨ad, A1, c1, eA, d0, d1, d2, _, _⟩ := at_Tab HC.out p h
          exact .inr ⟨h, ad, eA, pw_cell_below HWR.out d0, by rw [less_dec]; exact decide_eq_false (HGe.out h)⟩
        · exact .inl h
      have s1 := head_Tab A l.length c0 p (by omega)
      have s2 := tail_Tab A l.length c0 p hple hc
      have HX := Aside0.mk (fun n => Kd.F_drewN (Kd.C_F heap_Tab (Kd.C_below (take_C HC.out hple) HWR.out)) n)
      have HY := Aside0.mk (Kd.C_F heap_Tab (Kd.C_below (drop_C HC.out hple hc) HWR.out))
      have hxl : (l.take p).length = p := by rw [List.length_take]; omega
      change Aside0 (Kd.F kTab wr (fun k => k < wr.heap.size) (tailA A c0 p 3) (l.length - p) (l.drop p)) at HY
      generalize tailA A c0 p 3 = A' at *
      generalize l.drop p = Y at *
      generalize l.take p = X at *
      generalize (rdTab l p).name = nm at *
      obtain ⟨X2, hX2⟩ : ∃ X2, X ++ [⟨tb, ⟨cols, ks⟩⟩] = X2 := ⟨_, rfl⟩
      have hx2l : X2.length = p + 1 := by rw [← hX2]; simp; omega
      rw [hX2] at HG
      have HX2 := Aside0.mk hX2
      have HXL := Aside0.mk hxl
      have HX2L := Aside0.mk hx2l
      have HD1 := Aside0.mk (Kd.C_F heap_Col (Kd.C_below (Kd.F_now HD.out) HWR.out))
      have HKR := Aside0.mk (fun (W : World) (hb : Below wr.heap.size wr W) => And.intro (pw_cell_below hb k1) (And.intro (pw_cell_below hb k2) (pw_cell_below hb k3)))
      clear hX2 hxl hx2l
      rcases hx with hx | ⟨hx, ad, rfl, d0, hq⟩
      all_goals
        go_wp2
        go_quiet (fail)
        go_wp2_with (first
          | (at_builtin; refine pushAllTab (w0 := wr) wr.heap.size rfl (.tmp 51) (.tmp 54) rfl (.slice none 0 0) [] X _ p c0 (fun k => k < wr.heap.size) rfl rfl (HX.out _) (fun k _ => by simp [Value.ownBlock]) (Own.nil _ _ _ _) (pw_below_drewN (Below.refl _ _) _) (Nat.le_refl _) (by simp; omega) ?_; intro v2 w2 hN1 hb2; rw [List.nil_append] at hN1; obtain ⟨A1, c1, rfl, _, _⟩ := hN1.slice; have HN1 := Aside0.mk hN1; have HB2 := Aside0.mk hb2; obtain ⟨m1, m2, m3⟩ := HKR.out _ hb2; clear hN1 hb2 k1 k2 k3)
          | (at_builtin; refine pushTab (w0 := wr) (W := w2) wr.heap.size rfl (.tmp 56) (.tmp 62) rfl (.slice A1 X.length c1) X ⟨tb, ⟨cols, ks⟩⟩ [.string tb, .slice D cols.length d, .int .i64 ks] (fun k => k < wr.heap.size) rfl rfl (fk_Tab (x := ⟨tb, ⟨cols, ks⟩⟩) hd (Kd.F_step HD1.out (fun k hk _ => HB2.out.block k hk))) (HN1.out.lt (fun k hk => hk)) HN1.out HB2.out HB2.out.size (by rw [HXL.out]; omega) ?_; intro v3 w3 hN2 hb3; rw [HX2.out] at hN2; obtain ⟨A2, c2, rfl, _, _⟩ := hN2.slice; have HN2 := Aside0.mk hN2; have HB3 := Aside0.mk hb3; clear hN2 hb3 m1 m2 m3)
          | (at_builtin; refine pushAllTab (w0 := wr) (W := w3) wr.heap.size rfl (.tmp 64) (.tmp 67) rfl (.slice A2 X2.length c2) X2 Y A' (l.length - p) (c0 - p) (fun k => k < wr.heap.size) rfl rfl (Kd.F_step HY.out (fun k hk _ => HB3.out.block k hk)) (HN2.out.lt (fun k hk => hk)) HN2.out HB3.out HB3.out.size (by rw [HX2L.out]; omega) ?_; intro v4 w4 hN4 hb4))
        exact bodyPost_ret (v := .tuple #[v4, .int .i64 0]) (by simp [results, Tryz.results28, go_sem]) rfl (HG.out HE.out _ _ (Own.lower hN4 HWR.out.size) (bmore HWR.out hb4))
end Go.Proofs.YtmdofdaiepilbaaGreatDoor
