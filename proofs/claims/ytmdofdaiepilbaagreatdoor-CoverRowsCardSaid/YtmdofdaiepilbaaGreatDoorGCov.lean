/- cover.covered and the document's Covered: whether an event's row is covered. Conditions: the tables and works read so, sorted by their names; the tables' keys lie in their columns; the rows' texts and numbers are of their size. -/
import Derived.Test.YtmdofdaiepilbaaGreatDoorGEvAt
import Derived.Test.YtmdofdaiepilbaaGreatDoorRefKeyS
import Derived.Test.YtmdofdaiepilbaaGreatDoorWalOfF
import Derived.Test.YtmdofdaiepilbaaGreatDoorGood04
import Derived.Test.YtmdofdaiepilbaaGreatDoorGPush
import Derived.Test.YtmdofdaiepilbaaGreatDoorByt
namespace Go.Proofs.YtmdofdaiepilbaaGreatDoor
open Go.RowKit Go.Proofs.YtmdofdaiepilbaaGreatDoorW.PrintWords Go.Proofs.YtmdofdaiepilbaaGreatDoorW.PrintMore
set_option linter.unusedVariables false
set_option linter.unusedSimpArgs false
/-- tables whose keys lie in their columns -/
def keyT (l : List Tab) : Prop := sortT l ∧ l.length ≤ 1000000 ∧ ∀ t ∈ l, 0 ≤ t.schema.keys ∧ t.schema.keys ≤ (t.schema.cols.length : Int) ∧ t.schema.cols.length ≤ 1000000
theorem keyT.few {l : List Tab} (h : keyT l) : fewC l := fun t ht => (h.2.2 t ht).2.2
theorem keyT.sch {l : List Tab} (h : keyT l) (s : ByteArray) : 0 ≤ (schT l s).keys ∧ (schT l s).keys ≤ ((schT l s).cols.length : Int) ∧ (schT l s).keys ≤ 1000000 := by
  unfold schT
  split
  · rename_i hh
    have hp := (hasT_lt hh).1
    rw [rdTab_get hp]
    have := h.2.2 _ (List.getElem_mem hp)
    exact ⟨this.1, this.2.1, by omega⟩
  · exact ⟨by decide, by decide, by decide⟩
structure okRow (row : List Val) : Prop where
  txt : txtOk row
  num : numOk row
  len : row.length ≤ 1000000
/-- is a row covered -/
def covE (l : List Tab) (wk : List Wrk) (s : ByteArray) (row : List Val) : Bool := decide ((keyE (schT l s).cols (schT l s).keys row).2 = 0) && covB wk s (keyE (schT l s).cols (schT l s).keys row).1
theorem keyE_err (l : List Col) (ks : Int) (row : List Val) : (keyE l ks row).2 = 0 ∨ (keyE l ks row).2 = 9 := by
  unfold keyE
  split <;> simp
def evCells (kd nm : Int) (tb : ByteArray) (B : Option Addr) (bl bc : Nat) (R : Option Addr) (rl rc : Nat) (ck : Int) (ct : ByteArray) (D : Option Addr) (dl dc : Nat) (cks : Int) (cn : ByteArray) (cnk : Int) (cnn : Bool) : Array Value := #[.int .i64 kd, .int .i64 nm, .string tb, .slice B bl bc, .slice R rl rc, .int .i64 ck, .string ct, .slice D dl dc, .int .i64 cks, .string cn, .int .i64 cnk, .bool cnn]
set_option maxRecDepth 100000 in
set_option maxHeartbeats 8000000 in
theorem covered_calls (A : Option Addr) (c : Nat) (l : List Tab) (A' : Option Addr) (c' : Nat) (wk : List Wrk) (kd nm : Int) (tb : ByteArray) (B R : Option Addr) (bl bc rl rc : Nat) (ck : Int) (ct : ByteArray) (D : Option Addr) (dl dc : Nat) (cks : Int) (cn : ByteArray) (cnk : Int) (cnn : Bool)
    (hk : keyT l) (hw : sortW wk) (hwl : wk.length ≤ 1000000) (w : World) (hC : kTab.C w A l.length l) (hW : kWrk.C w A' wk.length wk) (hT : TabsU w) (row : List Val) (hrow : okRow row)
    (hR : if kd = 5 then kVal.C w B row.length row ∧ bl = row.length ∧ row.length ≤ bc else kVal.C w R row.length row ∧ rl = row.length ∧ row.length ≤ rc) :
    Calls Tryz.prog 33 #[.slice A l.length c, .slice A' wk.length c', .agg #[.int .i64 kd, .int .i64 nm, .string tb, .slice B bl bc, .slice R rl rc, .int .i64 ck, .string ct, .slice D dl dc, .int .i64 cks, .string cn, .int .i64 cnk, .bool cnn]] w fun e w' => e = .returned (.bool (covE l wk tb row)) ∧ Below w.heap.size w w' := by
  have HF := Aside0.mk (fun (W : World) (hb : Below w.heap.size w W) => evFind_calls A c l tb hk.1 W (Kd.C_below hC hb) hk.2.1 hk.few)
  have HV := Aside0.mk (fun (W : World) (hb : Below w.heap.size w W) => covers_calls A' c' wk tb (keyE (schT l tb).cols (schT l tb).keys row).1 hw W (Kd.C_below hW hb) hwl)
  have hks := hk.sch tb
  have HTU := Aside0.mk hT
  have hcv : covE l wk tb row = (decide ((keyE (schT l tb).cols (schT l tb).keys row).2 = 0) && covB wk tb (keyE (schT l tb).cols (schT l tb).keys row).1) := rfl
  have hke := keyE_err (schT l tb).cols (schT l tb).keys row
  have HK := Aside0.mk (fun (W : World) (hb : Below w.heap.size w W) (A3 : Option Addr) (c3 : Nat) (Rr : Option Addr) (rc' : Nat) (hrc : row.length ≤ rc') (hCC : kCol.C W A3 (schT l tb).cols.length (schT l tb).cols) (hRR : kVal.C w Rr row.length row) =>
    schKey_calls A3 c3 (schT l tb).cols (schT l tb).keys hks.1 hks.2.1 hks.2.2 Rr rc' row hrc W hCC (Kd.C_below hRR hb) (HTU.out.below hb) hrow.num)
  have HCV := Aside0.mk hcv
  have HR := Aside0.mk hR
  clear hR hcv hC hW hT hks hk hw hrow
  generalize (keyE (schT l tb).cols (schT l tb).keys row) = ke at *
  obtain ⟨key, err⟩ := ke
  simp only at hke
  generalize covB wk tb key = cb at *
  have hW0 : Below w.heap.size w (w.alloc (.cells #[.int .i64 kd, .int .i64 nm, .string tb, .slice B bl bc, .slice R rl rc, .int .i64 ck, .string ct, .slice D dl dc, .int .i64 cks, .string cn, .int .i64 cnk, .bool cnn] 55)) := below_alloc (Below.refl _ _) _
  have h0 : (w.alloc (.cells #[.int .i64 kd, .int .i64 nm, .string tb, .slice B bl bc, .slice R rl rc, .int .i64 ck, .string ct, .slice D dl dc, .int .i64 cks, .string cn, .int .i64 cnk, .bool cnn] 55)).heap[w.heap.size]? = some (.cells #[.int .i64 kd, .int .i64 nm, .string tb, .slice B bl bc, .slice R rl rc, .int .i64 ck, .string ct, .slice D dl dc, .int .i64 cks, .string cn, .int .i64 cnk, .bool cnn] 55 (0, 0)) := heap_alloc_new _ _
  go_enter Tryz.func33, Tryz.ntmps33
  go_upto_region 1 with fail
  generalize w.alloc (.cells #[.int .i64 kd, .int .i64 nm, .string tb, .slice B bl bc, .slice R rl rc, .int .i64 ck, .string ct, .slice D dl dc, .int .i64 cks, .string cn, .int .i64 cnk, .bool cnn] 55) = W0 at *
  have H0 := Aside0.mk h0
  have HW0 := Aside0.mk hW0
  have HD := Aside0.mk (fun (W : World) (hb : Below W0.heap.size W0 W) => (show W.cell? ⟨w.heap.size, 0, none⟩ = some (.int .i64 kd) ∧ W.cell? ⟨w.heap.size, 2, none⟩ = some (.string tb) ∧ W.cell? ⟨w.heap.size, 3, none⟩ = some (.slice B bl bc) ∧ W.cell? ⟨w.heap.size, 4, none⟩ = some (.slice R rl rc) from ⟨pw_cell_below hb (cell_of_row _ _ 0 _ _ _ H0.out), pw_cell_below hb (cell_of_row _ _ 2 _ _ _ H0.out), pw_cell_below hb (cell_of_row _ _ 3 _ _ _ H0.out), pw_cell_below hb (cell_of_row _ _ 4 _ _ _ H0.out)⟩))
  clear h0 hW0
  obtain ⟨a0, a2, a3, a4⟩ := HD.out W0 (Below.refl _ _)
  go_upto_region 2 with (go_at_call 56; (with_reducible refine (HF.out _ HW0.out).mono ?_); rintro e w1 ⟨v1, rfl, hR1, hb1⟩; obtain ⟨A3, c3, rfl⟩ := Kd.R_slice hR1)
  have hb2 := bmore HW0.out hb1
  have HCC := Aside0.mk (Kd.C_below (Kd.N_reads' (Kd.R_N hR1)).2.2 (below_alloc (Below.refl w1.heap.size w1) (.cells #[.slice A3 (schT l tb).cols.length c3, .int .i64 (schT l tb).keys] 43)))
  have hb3 := bmore hb1 (below_alloc (Below.refl w1.heap.size w1) (.cells #[.slice A3 (schT l tb).cols.length c3, .int .i64 (schT l tb).keys] 43))
  have h3 : (w1.alloc (.cells #[.slice A3 (schT l tb).cols.length c3, .int .i64 (schT l tb).keys] 43)).heap[w1.heap.size]? = some (.cells #[.slice A3 (schT l tb).cols.length c3, .int .i64 (schT l tb).keys] 43 (0, 0)) := heap_alloc_new _ _
  generalize w1.alloc (.cells #[.slice A3 (schT l tb).cols.length c3, .int .i64 (schT l tb).keys] 43) = W2 at *
  obtain ⟨b0, b2, b3, b4⟩ := HD.out W2 hb3
  have s0 : W2.cell? ⟨w1.heap.size, 0, none⟩ = some (.slice A3 (schT l tb).cols.length c3) := cell_of_row _ _ 0 _ _ _ h3
  have s1 : W2.cell? ⟨w1.heap.size, 1, none⟩ = some (.int .i64 (schT l tb).keys) := cell_of_row _ _ 1 _ _ _ h3
  have HB3 := Aside0.mk (bmore HW0.out hb3)
  have HB3' := Aside0.mk hb3
  clear h3 hb3 hb2 hR1 a0 a2 a3 a4 hb1
  have hq := beq_dec kd 5
  have HKT : ∃ (Rr : Option Addr) (rc' : Nat), Aside0 (Calls Tryz.prog 57 #[.agg #[.slice A3 (schT l tb).cols.length c3, .int .i64 (schT l tb).keys], .slice Rr row.length rc'] W2 fun e w' => e = .returned (.tuple #[.string key, .int .i64 err]) ∧ Below W2.heap.size W2 w') ∧ Aside0 (if kd = 5 then Value.slice B bl bc = .slice Rr row.length rc' else Value.slice R rl rc = .slice Rr row.length rc') := by
    have hR := HR.out
    by_cases h5 : kd = 5
    · rw [if_pos h5] at hR
      obtain ⟨h1, rfl, h3⟩ := hR
      exact ⟨B, bc, ⟨HK.out W2 HB3.out A3 c3 B bc h3 HCC.out (Kd.C_below h1 (Below.refl _ _))⟩, ⟨by rw [if_pos h5]⟩⟩
    · rw [if_neg h5] at hR
      obtain ⟨h1, rfl, h3⟩ := hR
      exact ⟨R, rc, ⟨HK.out W2 HB3.out A3 c3 R rc h3 HCC.out (Kd.C_below h1 (Below.refl _ _))⟩, ⟨by rw [if_neg h5]⟩⟩
  obtain ⟨Rr, rc', HKC, HKE⟩ := HKT
  clear HK HR HCC
  generalize (schT l tb) = sc at *
  by_cases h5 : kd = 5
  all_goals
    have hke2 := HKE.out
    first
      | (rw [if_pos h5] at hke2; rw [decide_eq_true h5] at hq)
      | (rw [if_neg h5] at hke2; rw [decide_eq_false h5] at hq)
    simp only [Value.slice.injEq] at hke2
    obtain ⟨rfl, rfl, rfl⟩ := hke2
    clear h5 HKE
    rcases hke with rfl | rfl
  all_goals
    go_wp2_with (first
      | (go_at_call 57; (with_reducible refine (HKC.out).mono ?_); rintro e w3 ⟨rfl, hb4⟩; have HB4 := Aside0.mk hb4; obtain ⟨e0, e2, e3, e4⟩ := HD.out _ (bmore HB3'.out hb4); clear hb4)
      | (go_at_call 58; (with_reducible refine (HV.out _ (bmore HB3.out HB4.out)).mono ?_); rintro e w4 ⟨rfl, hb5⟩; have HB5 := Aside0.mk hb5; clear hb5))
    go_ret
    first
      | exact ⟨retB (HCV.out.trans rfl), bmore (bmore HB3.out HB4.out) HB5.out⟩
      | exact ⟨retB (HCV.out.trans rfl), bmore HB3.out HB4.out⟩
end Go.Proofs.YtmdofdaiepilbaaGreatDoor

/- cover.Route's tell: a write more, where the event tells one. Conditions: the event reads so, its rows are short; the variable holds an own row of writes. -/
namespace Go.Proofs.YtmdofdaiepilbaaGreatDoor
open Go.RowKit Go.Proofs.YtmdofdaiepilbaaGreatDoorW.PrintWords
set_option linter.unusedVariables false
set_option linter.unusedSimpArgs false
/-- the writes that stand in the variable g -/
structure OutW (w : World) (g base : Nat) (v : Value) (ws : List Wri) : Prop where
  cell : w.heap[g]? = some (.cells #[v] 33 (0, 0))
  own : Kd.N kWri 60 w base (fun k => k ≠ g) v ws
  lt : g < base
theorem OutW.below {w w1 : World} {g base : Nat} {v : Value} {ws : List Wri} (h : OutW w g base v ws) (hb : Below w.heap.size w w1) : OutW w1 g base v ws := ⟨blk_below h.cell hb, Kd.N_below h.own hb, h.lt⟩
/-- tell has put a write behind -/
def Told (w : World) (g base : Nat) (v : Value) (ws : List Wri) (e : Ending) (w' : World) : Prop := ∃ v', e = .returned (.tuple #[]) ∧ OutW w' g base v' ws ∧ KeepBut w w' g v.ownBlock ∧ (v'.ownBlock = v.ownBlock ∨ ∃ b, v'.ownBlock = some b ∧ w.heap.size ≤ b) ∧ Below g w w'
def toldL (e : Ev) : List Wri := if ofB e then [writeOf e] else []
theorem infoWri2 : (Tryz.prog.info? 60).map (fun i => (i.zero, i.size, i.bytes)) = some (some (.agg #[.int .i64 0, .string ⟨#[]⟩, .slice none 0 0, .int .i64 0, .string ⟨#[]⟩, .slice none 0 0, .int .i64 0, .string ⟨#[]⟩, .int .i64 0, .bool false]), kWri.sz, 136) := by kernel_rfl
section
variable {ops : Array Oper} {o : Oper} {a : Act} {Q : Exit → Act → World → Prop} {rest : List Oper}
theorem pushOut {w0 W : World} (g base : Nat) (hgd : o.guard = none) (s x : Operand) (ho : o.op = .call { callee := .builtin .append, args := #[s, x], argTypes := #[33, 33] }) (v : Value) (ws : List Wri) (p : Wri) (cs : List Value) (okp : Nat → Prop) (hs : a.eval s = v) (hx : a.eval x = .slice (some ⟨W.heap.size, 0, none⟩) 1 1) (hp : Kd.FK kWri W okp p cs) (hok : ∀ k, okp k → k ≠ g ∧ some k ≠ v.ownBlock) (hg : g < W.heap.size)
    (HO : Kd.N kWri 60 W base (fun k => k ≠ g) v ws) (HB : Below base w0 W) (hbase : base ≤ W.heap.size) (hl : ws.length + 1 ≤ 1000000) (h : ∀ v1 w1, Kd.N kWri 60 w1 base (fun k => k ≠ g) v1 (ws ++ [p]) → Below base w0 w1 → W.grownBy w1 v.ownBlock → (v1.ownBlock = v.ownBlock ∨ ∃ b, v1.ownBlock = some b ∧ W.heap.size ≤ b) → wpList Tryz.prog ops Q rest (a.put o.dst v1) w1) : wpList Tryz.prog ops Q (o :: rest) a (W.alloc (.cells cs.toArray 60)) :=
  Kd.N_append kWri (w0 := w0) (W := W) base hgd s x 33 60 (.agg #[.int .i64 0, .string ⟨#[]⟩, .slice none 0 0, .int .i64 0, .string ⟨#[]⟩, .slice none 0 0, .int .i64 0, .string ⟨#[]⟩, .int .i64 0, .bool false]) 136 ho Tryz.underlying33 infoWri2 rfl (by decide) (by decide) v ws p cs (fun k => k ≠ g) okp hs hx hp hok (fun k hk => by omega) HO HB hbase (by omega) h
end
set_option maxRecDepth 100000 in
set_option maxHeartbeats 8000000 in
theorem tell_calls (g base : Nat) (e : Ev) (A3 A4 A7 : Option Addr) (c3 c4 c7 : Nat) (w : World) (hA3 : kVal.C w A3 e.before.length e.before) (hA4 : kVal.C w A4 e.after.length e.after) (hA7 : kCol.C w A7 e.change.schema.cols.length e.change.schema.cols) (hc3 : e.before.length ≤ c3) (hc4 : e.after.length ≤ c4) (hc7 : e.change.schema.cols.length ≤ c7) (hn3 : e.before.length ≤ 1000000) (hn4 : e.after.length ≤ 1000000) (hn7 : e.change.schema.cols.length ≤ 1000000)
    (D : Option Addr) (d : Nat) (ws : List Wri) (hO : OutW w g base (.slice D ws.length d) ws) (hl : ws.length ≤ 100000) (hbs : base ≤ w.heap.size) :
    Calls Tryz.prog 30 #[.agg #[.int .i64 e.kind, .int .i64 e.num, .string e.table, .slice A3 e.before.length c3, .slice A4 e.after.length c4, .int .i64 e.change.kind, .string e.change.table, .slice A7 e.change.schema.cols.length c7, .int .i64 e.change.schema.keys, .string e.change.column.name, .int .i64 e.change.column.kind, .bool e.change.column.none], .pointer (some ⟨g, 0, none⟩)] w (Told w g base (.slice D ws.length d) (ws ++ toldL e)) := by
  have HOf := Aside0.mk (fun (W : World) (hb : Below w.heap.size w W) => wal_ofF e A3 A4 A7 c3 c4 c7 W (Kd.C_below hA3 hb) (Kd.C_below hA4 hb) (Kd.C_below hA7 hb) hc3 hc4 hc7 (by omega) (by omega) (by omega))
  have HO := Aside0.mk hO
  have hgl : g < w.heap.size := blk_lt hO.cell
  have htl : toldL e = if ofB e then [writeOf e] else [] := rfl
  clear hA3 hA4 hA7 hc3 hc4 hc7 hn3 hn4 hn7 hO
  generalize toldL e = tl at *
  generalize writeOf e = x at *
  generalize ofB e = b at *
  have hW : Below w.heap.size w (w.alloc (.cells #[.int .i64 e.kind, .int .i64 e.num, .string e.table, .slice A3 e.before.length c3, .slice A4 e.after.length c4, .int .i64 e.change.kind, .string e.change.table, .slice A7 e.change.schema.cols.length c7, .int .i64 e.change.schema.keys, .string e.change.column.name, .int .i64 e.change.column.kind, .bool e.change.column.none] 55)) := below_alloc (Below.refl _ _) _
  have HW := Aside0.mk hW
  clear hW
  go_enter Tryz.func30, Tryz.ntmps30
  go_upto_region 2 with (go_at_call 31; (with_reducible refine (HOf.out _ HW.out).mono ?_); rintro en w1 ⟨A2, c2, A5, c5, rfl, hc2, hF2, hc5, hF5, hb1⟩)
  have hb2 := bmore HW.out hb1
  have hba : Below w1.heap.size w1 (w1.alloc (.cells #[.int .i64 x.kind, .string x.table, .slice A2 x.row.length c2, .int .i64 x.change.kind, .string x.change.table, .slice A5 x.change.schema.cols.length c5, .int .i64 x.change.schema.keys, .string x.change.column.name, .int .i64 x.change.column.kind, .bool x.change.column.none] 60)) := below_alloc (Below.refl _ _) _
  have hy := heap_alloc_new w1 (.cells #[.int .i64 x.kind, .string x.table, .slice A2 x.row.length c2, .int .i64 x.change.kind, .string x.change.table, .slice A5 x.change.schema.cols.length c5, .int .i64 x.change.schema.keys, .string x.change.column.name, .int .i64 x.change.column.kind, .bool x.change.column.none] 60)
  have hFK := fk_Wri (x := x) hc2 (Kd.F_below hF2 hba) hc5 (Kd.F_below hF5 hba)
  generalize w1.alloc (.cells #[.int .i64 x.kind, .string x.table, .slice A2 x.row.length c2, .int .i64 x.change.kind, .string x.change.table, .slice A5 x.change.schema.cols.length c5, .int .i64 x.change.schema.keys, .string x.change.column.name, .int .i64 x.change.column.kind, .bool x.change.column.none] 60) = W2 at *
  have hb3 := bmore hb2 hba
  have HB3 := Aside0.mk hb3
  have HFK := Aside0.mk (Kd.FK_mono (ok' := fun k => w.heap.size ≤ k) hFK (fun k hk => Nat.le_trans HW.out.size hk))
  have HO2 := Aside0.mk (HO.out.below hb3)
  have hgl1 : g < w1.heap.size := by have := hb2.size; omega
  have hs1 : w.heap.size + 1 ≤ w1.heap.size := by have := hb1.size; simp at this; omega
  cases b
  · simp only [Bool.false_eq_true, if_false] at htl
    subst htl
    clear hy hFK hba hb1 hb2 hb3
    go_wp2
    go_end0
    rw [List.append_nil]
    exact ⟨_, rfl, HO2.out, KeepBut.of_below HB3.out _ _, .inl rfl, HB3.out.mono (by omega)⟩
  · simp only [if_true] at htl
    subst htl
    have y0 : W2.cell? ⟨w1.heap.size, 0, none⟩ = some (.int .i64 x.kind) := cell_of_row _ _ 0 _ _ _ hy
    have y1 : W2.cell? ⟨w1.heap.size, 1, none⟩ = some (.string x.table) := cell_of_row _ _ 1 _ _ _ hy
    have y2 : W2.cell? ⟨w1.heap.size, 2, none⟩ = some (.slice A2 x.row.length c2) := cell_of_row _ _ 2 _ _ _ hy
    have y3 : W2.cell? ⟨w1.heap.size, 3, none⟩ = some (.int .i64 x.change.kind) := cell_of_row _ _ 3 _ _ _ hy
    have y4 : W2.cell? ⟨w1.heap.size, 4, none⟩ = some (.string x.change.table) := cell_of_row _ _ 4 _ _ _ hy
    have y5 : W2.cell? ⟨w1.heap.size, 5, none⟩ = some (.slice A5 x.change.schema.cols.length c5) := cell_of_row _ _ 5 _ _ _ hy
    have y6 : W2.cell? ⟨w1.heap.size, 6, none⟩ = some (.int .i64 x.change.schema.keys) := cell_of_row _ _ 6 _ _ _ hy
    have y7 : W2.cell? ⟨w1.heap.size, 7, none⟩ = some (.string x.change.column.name) := cell_of_row _ _ 7 _ _ _ hy
    have y8 : W2.cell? ⟨w1.heap.size, 8, none⟩ = some (.int .i64 x.change.column.kind) := cell_of_row _ _ 8 _ _ _ hy
    have y9 : W2.cell? ⟨w1.heap.size, 9, none⟩ = some (.bool x.change.column.none) := cell_of_row _ _ 9 _ _ _ hy
    have z0 : W2.cell? ⟨g, 0, none⟩ = some (.slice D ws.length d) := cell_of_row _ _ 0 _ _ _ HO2.out.cell
    have HLt2 := Aside0.mk (fun k hk => (Kd.N_lt (w := w) HO.out.own k hk : k < w.heap.size))
    have HS1 := Aside0.mk hs1
    have HOk := Aside0.mk (fun (k : Nat) (hk : w.heap.size ≤ k) => (⟨Nat.ne_of_gt (Nat.lt_of_lt_of_le hgl hk), fun he => absurd (HLt2.out k he.symm) (Nat.not_lt.2 hk)⟩ : k ≠ g ∧ some k ≠ (Value.slice D ws.length d).ownBlock))
    have HG2 := Aside0.mk (Nat.lt_of_lt_of_le hgl HB3.out.size)
    have HBB := Aside0.mk (HB3.out.mono hbs)
    have HBS := Aside0.mk (Nat.le_trans hbs HB3.out.size)
    have HLL := Aside0.mk (show ws.length + 1 ≤ 1000000 by omega)
    clear hy hFK hba hb1 hb2 hb3 hF2 hF5 hc2 hc5
    go_wp2_with (at_builtin; refine pushOut (w0 := w) (W := W2) g base rfl (.tmp 11) (.tmp 13) rfl (.slice D ws.length d) ws x [.int .i64 x.kind, .string x.table, .slice A2 x.row.length c2, .int .i64 x.change.kind, .string x.change.table, .slice A5 x.change.schema.cols.length c5, .int .i64 x.change.schema.keys, .string x.change.column.name, .int .i64 x.change.column.kind, .bool x.change.column.none] (fun k => w.heap.size ≤ k) rfl rfl HFK.out HOk.out HG2.out HO2.out.own HBB.out HBS.out HLL.out ?_; intro v3 w3 hN3 hb4 hg4 hat4; obtain ⟨D3, d3, rfl⟩ := Kd.N_slice hN3; have k3 := (hb4.block g HO.out.lt).trans HO.out.cell; have q0 : w3.cell? ⟨g, 0, none⟩ = some (.slice D ws.length d) := cell_of_row w3 _ 0 _ _ _ k3; have q1 := frozen_of_row w3 g 0 _ _ k3; have HN3 := Aside0.mk hN3; have HB4 := Aside0.mk hb4; have HG4 := Aside0.mk hg4; have HAt4 := Aside0.mk hat4; have HC3 := Aside0.mk k3; clear hN3 hb4 hg4 hat4 k3 y0 y1 y2 y3 y4 y5 y6 y7 y8 y9 z0)
    go_end0
    rw [show Value.slice D3 (ws.length + 1) d3 = .slice D3 (ws ++ [x]).length d3 by simp]
    refine ⟨.slice D3 (ws ++ [x]).length d3, rfl, ⟨heap_setCell_same w3 g 0 _ _ _ HC3.out, Kd.N_far HN3.out (p := ⟨g, 0, none⟩) (fun k hk => hk) _, HO.out.lt⟩, ((KeepBut.of_below HB3.out g _).trans (KeepBut.of_grown HG4.out g) (.inl rfl)).set_ 0 _, ?_, (HB4.out.mono (Nat.le_of_lt HO.out.lt)).setCell (p := ⟨g, 0, none⟩) (Nat.le_refl _) _⟩
    rcases HAt4.out with h | ⟨b, h, h2⟩
    · exact .inl h
    · exact .inr ⟨b, h, Nat.le_trans HB3.out.size h2⟩
end Go.Proofs.YtmdofdaiepilbaaGreatDoor

/- cover.Route at events of rows: what the sink is told. Conditions: the tables and works read so, sorted by their names; the keys lie in the columns; the events read so and are short; none changes a table. -/
namespace Go.Proofs.YtmdofdaiepilbaaGreatDoor
open Go.RowKit Go.Proofs.YtmdofdaiepilbaaGreatDoorW.PrintWords
set_option linter.unusedVariables false
set_option linter.unusedSimpArgs false
theorem infoWrk2 : (Tryz.prog.info? 47).map (fun i => (i.zero, i.size, i.bytes)) = some (some (.agg #[.string ⟨#[]⟩, .bool false, .string ⟨#[]⟩]), kWrk.sz, 40) := by kernel_rfl
set_option maxHeartbeats 1000000 in
theorem cloneWrk_calls (A : Option Addr) (n c : Nat) (l : List Wrk) (w : World) (hr : kWrk.C w A n l) (hn : n * 40 ≤ 140737488355328) :
    Calls Tryz.prog 32 #[.slice A n c] w (FreshOf kWrk 47 w l) := by
  have HR := Aside0.mk hr
  have hq : ∀ W : World, (binOp .eql 23 (.slice A n c) (.slice none 0 0)).run Tryz.prog W = .ok (.bool A.isNone) W := fun W => Lib.run_eql_slice_nil W 23 47 A n c 0 0 Tryz.underlying23
  cases A with
  | none =>
    obtain ⟨rfl, rfl⟩ := C_nil_of hr
    clear hr
    go_enter Tryz.func32, Tryz.ntmps32
    go_wp2
    go_ret
    exact ⟨_, rfl, Kd.R_nil _ _ _ _ _, Below.refl _ _⟩
  | some ad =>
    clear hr
    go_enter Tryz.func32, Tryz.ntmps32
    go_wp2_with (refine Kd.R_append_rows kWrk (w0 := w) w.heap.size rfl (.tmp 5) (.tmp 6) 23 47 (.agg #[.string ⟨#[]⟩, .bool false, .string ⟨#[]⟩]) 40 rfl Tryz.underlying23 infoWrk2 rfl (by decide) (by decide) _ [] l (some ad) n c (fun _ => True) (fun _ => False) rfl rfl (made0 kWrk 47 w) (Kd.C_below HR.out (below_alloc (Below.refl _ _) _)) (fun x cs h => by obtain rfl := kWrk_open h; exact kWrk_mkM _ _ _ _) (fun k hk => hk.elim) (fun _ _ => trivial) (below_alloc (Below.refl _ _) _) (by simp) (by simp; omega) ?_; intro v1 w1 ho1 hb1 hg1 _)
    go_ret
    exact ⟨_, rfl, by assumption, by assumption⟩
def rowOf (e : Ev) : List Val := if e.kind = 5 then e.before else e.after
structure okEv (e : Ev) : Prop where
  before : okRow e.before
  after : okRow e.after
  cols : e.change.schema.cols.length ≤ 1000000
theorem okEv.row {e : Ev} (h : okEv e) : okRow (rowOf e) := by unfold rowOf; split; exact h.before; exact h.after
/-- what is told of events of rows -/
def routeR (l : List Tab) (wk : List Wrk) (tx : List Ev) : List Wri := tx.flatMap (fun e => if covE l wk e.table (rowOf e) then toldL e else [])
theorem routeR_snoc (l : List Tab) (wk : List Wrk) (tx : List Ev) (k : Nat) (h : k < tx.length) : routeR l wk (tx.take (k + 1)) = routeR l wk (tx.take k) ++ (if covE l wk (rdEv tx k).table (rowOf (rdEv tx k)) then toldL (rdEv tx k) else []) := by
  have e : tx.take (k + 1) = tx.take k ++ [rdEv tx k] := by
    rw [List.take_add_one, List.getElem?_eq_getElem h]
    unfold rdEv
    simp [List.getD_eq_getElem?_getD, h]
  unfold routeR
  rw [e, List.flatMap_append]
  simp
theorem toldL_len (e : Ev) : (toldL e).length ≤ 1 := by unfold toldL; split <;> simp
theorem routeR_len (l : List Tab) (wk : List Wrk) : ∀ tx : List Ev, (routeR l wk tx).length ≤ tx.length
  | [] => by simp [routeR]
  | e :: tx => by
    have h := routeR_len l wk tx
    have h2 := toldL_len e
    unfold routeR at *
    rw [List.flatMap_cons, List.length_append, List.length_cons]
    split
    · omega
    · simp only [List.length_nil]; omega
theorem rdEv_get {l : List Ev} {k : Nat} (h : k < l.length) : rdEv l k = l[k] := by unfold rdEv; simp [List.getD_eq_getElem?_getD, h]
def RouteTell (w : World) (ws : List Wri) (wk : List Wrk) (err : Int) (e : Ending) (w' : World) : Prop := ∃ D d F f, e = .returned (.tuple #[.slice D ws.length d, .slice F wk.length f, .int .i64 err]) ∧ ws.length ≤ d ∧ kWri.C w' D ws.length ws ∧ wk.length ≤ f ∧ kWrk.C w' F wk.length wk ∧ Below w.heap.size w w'
set_option maxRecDepth 100000 in
set_option maxHeartbeats 8000000 in
theorem routeR_calls (A : Option Addr) (c : Nat) (l : List Tab) (A' : Option Addr) (c' : Nat) (wk : List Wrk) (X : Option Addr) (xc : Nat) (tx : List Ev)
    (hk : keyT l) (hw : sortW wk) (hwl : wk.length ≤ 1000000) (w : World) (hC : kTab.C w A l.length l) (hW : kWrk.C w A' wk.length wk) (hT : TabsU w) (hX : kEv.C w X tx.length tx) (htx : ∀ e ∈ tx, okEv e ∧ e.kind ≠ 6) (htl : tx.length ≤ 50000) :
    Calls Tryz.prog 10 #[.slice A l.length c, .slice A' wk.length c', .slice X tx.length xc] w (RouteTell w (routeR l wk tx) wk 0) := by
  have hcall : ∀ args W, (callFunc 30 args).run Tryz.prog W = .ok (.enter 30 args) W := fun _ _ => by kernel_rfl
  have HX := Aside0.mk hX
  have HTx := Aside0.mk htx
  have HC := Aside0.mk hC
  have HT := Aside0.mk hT
  have HK := Aside0.mk hk
  have HSw := Aside0.mk hw
  have HCl := Aside0.mk (fun (W : World) (hb : Below w.heap.size w W) => cloneWrk_calls A' wk.length c' wk W (Kd.C_below hW hb) (by omega))
  have hb0 : Below w.heap.size w (w.alloc (.cells #[.slice none 0 0] 33)) := below_alloc (Below.refl _ _) _
  have h0 : (w.alloc (.cells #[.slice none 0 0] 33)).heap[w.heap.size]? = some (.cells #[.slice none 0 0] 33 (0, 0)) := heap_alloc_new _ _
  have HB0 := Aside0.mk hb0
  clear hX htx hC hT hk hw hW
  go_enter Tryz.func10, Tryz.ntmps10
  go_upto_region 4 with (go_at_call 32; (with_reducible refine (HCl.out _ HB0.out).mono ?_); rintro en w3 ⟨v3, rfl, hR3, hb3⟩; obtain ⟨F, f, rfl⟩ := Kd.R_slice hR3)
  have hs0 : (w.alloc (.cells #[.slice none 0 0] 33)).heap.size = w.heap.size + 1 := by simp
  generalize w.alloc (.cells #[.slice none 0 0] 33) = W1 at *
  have HWF := Aside0.mk (Kd.F_mono (ok' := fun k => k < w3.heap.size ∧ k ≠ w.heap.size) (Kd.R_F (Kd.R_bound hR3)) (fun k hk => ⟨hk.2.2.1, by have := hk.2.1; omega⟩))
  have hfl : wk.length ≤ f := (Kd.N_reads' (Kd.R_N hR3)).2.1
  have HB3 := Aside0.mk (bmore hb0 hb3)
  have hlt3 : w.heap.size < w3.heap.size := by have := hb3.size; omega
  have HO3 := Aside0.mk (OutW.mk (w := w3) (g := w.heap.size) (base := w3.heap.size) (v := .slice none 0 0) (ws := []) (blk_below h0 hb3) (Kd.N_nil _ _ _ _ _) hlt3)
  clear hR3 hb3 h0 hb0 hs0
  go_wp2
  go_loopw [0, 1, 20] (fun sl sw i wr => ∃ (k : Nat) (D : Option Addr) (d : Nat) (ws : List Wri), k ≤ tx.length ∧ sl = .slice A l.length c ∧ sw = .slice F wk.length f ∧ i = .int .i64 k ∧ ws = routeR l wk (tx.take k) ∧ OutW wr w.heap.size w3.heap.size (.slice D ws.length d) ws ∧ Below w.heap.size w wr ∧ w3.heap.size ≤ wr.heap.size ∧ (∀ j, j < w3.heap.size → j ≠ w.heap.size → wr.heap[j]? = w3.heap[j]?)) (fun _ _ i _ => tx.length - (intOf i).toNat)
  case atStart => exact ⟨0, none, 0, [], by omega, rfl, rfl, rfl, by simp [routeR], HO3.out, HB3.out, Nat.le_refl _, fun _ _ _ => rfl⟩
  case round =>
    clear HO3
    obtain ⟨k, D, d, ws, hkl, rfl, rfl, rfl, hws, hO, hbel, hsz, hfr⟩ := hrel
    have HO := Aside0.mk hO
    have HBel := Aside0.mk hbel
    have HFr := Aside0.mk hfr
    clear hO hbel hfr
    by_cases hlt : k < tx.length
    case neg =>
      obtain rfl : k = tx.length := by omega
      rw [List.take_length] at hws
      have HWs := Aside0.mk hws
      have o0 : wr.cell? ⟨w.heap.size, 0, none⟩ = some (.slice D ws.length d) := cell_of_row _ _ 0 _ _ _ HO.out.cell
      have HWF2 := Aside0.mk (Kd.F_step HWF.out (fun k hk _ => HFr.out k hk.1 hk.2))
      clear hws
      go_wp2
      refine bodyPost_ret (v := .tuple #[.slice D ws.length d, .slice F wk.length f, .int .i64 0]) (by simp [results, Tryz.results10, go_sem]) rfl ?_
      have hr := Kd.N_reads' HO.out.own
      rw [← HWs.out]
      exact ⟨D, d, F, f, rfl, hr.2.1, hr.2.2, hfl, Kd.F_now HWF2.out, HBel.out⟩
    have hlt' : ((k : Nat) : Int) < (tx.length : Int) := by omega
    have hsn := routeR_snoc l wk tx k hlt
    have hrl : ws.length ≤ k := by rw [hws]; have := routeR_len l wk (tx.take k); rw [List.length_take] at this; omega
    obtain ⟨ad, A3, c3, A4, c4, A7, c7, rfl, d0, d1, d2, d3, d4, d5, d6, d7, d8, d9, d10, d11, l3, g3, l4, g4, l7, g7⟩ := at_Ev HX.out k hlt
    replace d0 := pw_cell_below HBel.out d0
    replace d1 := pw_cell_below HBel.out d1
    replace d2 := pw_cell_below HBel.out d2
    replace d3 := pw_cell_below HBel.out d3
    replace d4 := pw_cell_below HBel.out d4
    replace d5 := pw_cell_below HBel.out d5
    replace d6 := pw_cell_below HBel.out d6
    replace d7 := pw_cell_below HBel.out d7
    replace d8 := pw_cell_below HBel.out d8
    replace d9 := pw_cell_below HBel.out d9
    replace d10 := pw_cell_below HBel.out d10
    replace d11 := pw_cell_below HBel.out d11
    have hadlt := World.block_lt_of_cell? wr _ d0
    have htk := HTx.out _ (List.getElem_mem hlt)
    rw [← rdEv_get hlt] at htk
    obtain ⟨hok, hk6⟩ := htk
    generalize rdEv tx k = e at *
    have HCv := Aside0.mk (fun (W : World) (hb : Below wr.heap.size wr W) => covered_calls A c l F f wk e.kind e.num e.table A3 A4 e.before.length c3 e.after.length c4 e.change.kind e.change.table A7 e.change.schema.cols.length c7 e.change.schema.keys e.change.column.name e.change.column.kind e.change.column.none HK.out HSw.out hwl W (Kd.C_below HC.out (bmore HBel.out hb)) (Kd.C_below (Kd.F_now (Kd.F_step HWF.out (fun k hk _ => HFr.out k hk.1 hk.2))) hb) (HT.out.below (bmore HBel.out hb)) (rowOf e) hok.row (by
      unfold rowOf
      split
      · exact ⟨Kd.C_below g3 (bmore HBel.out hb), rfl, l3⟩
      · exact ⟨Kd.C_below g4 (bmore HBel.out hb), rfl, l4⟩))
    have HTl := Aside0.mk (fun (W : World) (hb : Below wr.heap.size wr W) => tell_calls w.heap.size w3.heap.size e A3 A4 A7 c3 c4 c7 W (Kd.C_below g3 (bmore HBel.out hb)) (Kd.C_below g4 (bmore HBel.out hb)) (Kd.C_below g7 (bmore HBel.out hb)) l3 l4 l7 hok.before.len hok.after.len hok.cols D d ws (HO.out.below hb) (by omega) (Nat.le_trans hsz hb.size))
    have hq : (e.kind != 6) = true := by simpa using hk6
    clear g3 g4 g7 l3 l4 l7 hok hk6
    generalize covE l wk e.table (rowOf e) = cv at *
    go_upto_region 7 with fail
    have hb4 : Below wr.heap.size wr (wr.alloc (.cells #[.int .i64 e.kind, .int .i64 e.num, .string e.table, .slice A3 e.before.length c3, .slice A4 e.after.length c4, .int .i64 e.change.kind, .string e.change.table, .slice A7 e.change.schema.cols.length c7, .int .i64 e.change.schema.keys, .string e.change.column.name, .int .i64 e.change.column.kind, .bool e.change.column.none] 55)) := below_alloc (Below.refl _ _) _
    have h4 : (wr.alloc (.cells #[.int .i64 e.kind, .int .i64 e.num, .string e.table, .slice A3 e.before.length c3, .slice A4 e.after.length c4, .int .i64 e.change.kind, .string e.change.table, .slice A7 e.change.schema.cols.length c7, .int .i64 e.change.schema.keys, .string e.change.column.name, .int .i64 e.change.column.kind, .bool e.change.column.none] 55)).heap[wr.heap.size]? = some (.cells #[.int .i64 e.kind, .int .i64 e.num, .string e.table, .slice A3 e.before.length c3, .slice A4 e.after.length c4, .int .i64 e.change.kind, .string e.change.table, .slice A7 e.change.schema.cols.length c7, .int .i64 e.change.schema.keys, .string e.change.column.name, .int .i64 e.change.column.kind, .bool e.change.column.none] 55 (0, 0)) := heap_alloc_new _ _
    generalize wr.alloc (.cells #[.int .i64 e.kind, .int .i64 e.num, .string e.table, .slice A3 e.before.length c3, .slice A4 e.after.length c4, .int .i64 e.change.kind, .string e.change.table, .slice A7 e.change.schema.cols.length c7, .int .i64 e.change.schema.keys, .string e.change.column.name, .int .i64 e.change.column.kind, .bool e.change.column.none] 55) = W4 at *
    have HY := Aside0.mk (fun (W : World) (hb : Below W4.heap.size W4 W) => (show W.cell? ⟨wr.heap.size, 0, none⟩ = some (.int .i64 e.kind) ∧ W.cell? ⟨wr.heap.size, 1, none⟩ = some (.int .i64 e.num) ∧ W.cell? ⟨wr.heap.size, 2, none⟩ = some (.string e.table) ∧ W.cell? ⟨wr.heap.size, 3, none⟩ = some (.slice A3 e.before.length c3) ∧ W.cell? ⟨wr.heap.size, 4, none⟩ = some (.slice A4 e.after.length c4) ∧ W.cell? ⟨wr.heap.size, 5, none⟩ = some (.int .i64 e.change.kind) ∧ W.cell? ⟨wr.heap.size, 6, none⟩ = some (.string e.change.table) ∧ W.cell? ⟨wr.heap.size, 7, none⟩ = some (.slice A7 e.change.schema.cols.length c7) ∧ W.cell? ⟨wr.heap.size, 8, none⟩ = some (.int .i64 e.change.schema.keys) ∧ W.cell? ⟨wr.heap.size, 9, none⟩ = some (.string e.change.column.name) ∧ W.cell? ⟨wr.heap.size, 10, none⟩ = some (.int .i64 e.change.column.kind) ∧ W.cell? ⟨wr.heap.size, 11, none⟩ = some (.bool e.change.column.none) from ⟨cell_of_row _ _ 0 _ _ _ (blk_below h4 hb), cell_of_row _ _ 1 _ _ _ (blk_below h4 hb), cell_of_row _ _ 2 _ _ _ (blk_below h4 hb), cell_of_row _ _ 3 _ _ _ (blk_below h4 hb), cell_of_row _ _ 4 _ _ _ (blk_below h4 hb), cell_of_row _ _ 5 _ _ _ (blk_below h4 hb), cell_of_row _ _ 6 _ _ _ (blk_below h4 hb), cell_of_row _ _ 7 _ _ _ (blk_below h4 hb), cell_of_row _ _ 8 _ _ _ (blk_below h4 hb), cell_of_row _ _ 9 _ _ _ (blk_below h4 hb), cell_of_row _ _ 10 _ _ _ (blk_below h4 hb), cell_of_row _ _ 11 _ _ _ (blk_below h4 hb)⟩))
    have HB4 := Aside0.mk hb4
    clear d0 d1 d2 d3 d4 d5 d6 d7 d8 d9 d10 d11 hb4 h4 hadlt
    obtain ⟨y0, y1, y2, y3, y4, y5, y6, y7, y8, y9, y10, y11⟩ := HY.out W4 (Below.refl _ _)
    cases cv
    · simp only [Bool.false_eq_true, if_false, List.append_nil] at hsn
      have HSn := Aside0.mk (hws.trans hsn.symm)
      clear hws hsn
      go_wp2_with (go_at_call 33; (with_reducible refine (HCv.out _ HB4.out).mono ?_); rintro en w5 ⟨rfl, hb5⟩; have HB5 := Aside0.mk (bmore HB4.out hb5); clear hb5)
      go_roundw
      case rel => exact ⟨k + 1, D, d, ws, by omega, rfl, rfl, by go_num, HSn.out, HO.out.below HB5.out, bmore HBel.out HB5.out, Nat.le_trans hsz HB5.out.size, fun j hj hj2 => (HB5.out.block j (by omega)).trans (HFr.out j hj hj2)⟩
      case measure => simp [intOf]; omega
    · simp only [if_true] at hsn
      rw [← hws] at hsn
      have HSn := Aside0.mk hsn
      clear hws hsn
      go_wp2_with (first
        | (go_at_call 33; (with_reducible refine (HCv.out _ HB4.out).mono ?_); rintro en w5 ⟨rfl, hb5⟩; obtain ⟨x0, x1, x2, x3, x4, x5, x6, x7, x8, x9, x10, x11⟩ := HY.out w5 hb5; have HB5 := Aside0.mk (bmore HB4.out hb5); clear hb5)
        | (go_at_call 30; (with_reducible refine (HTl.out _ HB5.out).mono ?_); rintro en w6 ⟨v6, rfl, hO6, hk6, hat6, hb6⟩; have HO6 := Aside0.mk hO6; have HK6 := Aside0.mk hk6; have HB6 := Aside0.mk hb6; clear hO6 hk6 hat6 hb6))
      go_roundw
      case rel =>
        have hO6 := HO6.out
        obtain ⟨D6, d6, rfl⟩ := Kd.N_slice hO6.own
        refine ⟨k + 1, D6, d6, ws ++ toldL e, by omega, rfl, rfl, by go_num, HSn.out.symm, hO6, (bmore HBel.out HB5.out).trans HB6.out, Nat.le_trans (Nat.le_trans hsz HB5.out.size) HB6.out.size, fun j hj hj2 => (HK6.out.2 j (by have := HB5.out.size; omega) hj2 (fun he => ?_)).trans ((HB5.out.block j (by omega)).trans (HFr.out j hj hj2))⟩
        have := Kd.N_base HO.out.own j he.symm
        omega
      case measure => simp [intOf]; omega
end Go.Proofs.YtmdofdaiepilbaaGreatDoor

/- The document's example of layer 18. Conditions: the tables of UTF-8 stand. -/
namespace Go.Proofs.YtmdofdaiepilbaaGreatDoor
open Go.RowKit Go.Proofs.YtmdofdaiepilbaaGreatDoorW.PrintWords
set_option linter.unusedVariables false
set_option linter.unusedSimpArgs false
theorem C_two {α : Type} {d : Kd α} {w : World} {b T : Nat} {x y : α} {cs ds : List Value} (hb : w.heap[b]? = some (.cells (cs ++ ds).toArray T (0, 0))) (hx : d.K w x cs) (hy : d.K w y ds) : d.C w (some ⟨b, 0, none⟩) 2 [x, y] :=
  ⟨rfl, by decide, fun _ => ⟨_, rfl, fun j p hj => by
    have hc : ∀ i, w.cell? ⟨b, i, none⟩ = (cs ++ ds)[i]? := fun i => by
      have := cell_of_row w b i _ _ _ hb
      rw [this]; simp
    have hl := d.K_len hx
    rcases j with _ | _ | j
    · simp only [List.getElem?_cons_zero, Option.some.injEq] at hj
      subst hj
      refine ⟨cs, hl, hx, fun i u hu => ?_⟩
      rw [show (⟨b, 0, none⟩ : Addr).add (0 * d.sz + i) = ⟨b, i, none⟩ from by rw [Nat.zero_mul, Nat.zero_add]; exact add0 b i, hc, List.getElem?_append_left (List.getElem?_eq_some_iff.1 hu).1]
      exact hu
    · simp only [Nat.zero_add, List.getElem?_cons_succ, List.getElem?_cons_zero, Option.some.injEq] at hj
      subst hj
      refine ⟨ds, d.K_len hy, hy, fun i u hu => ?_⟩
      rw [show (⟨b, 0, none⟩ : Addr).add ((0 + 1) * d.sz + i) = ⟨b, d.sz + i, none⟩ from by rw [Nat.zero_add, Nat.one_mul]; exact add0 b _, hc, List.getElem?_append_right (by omega), hl, Nat.add_sub_cancel_left]
      exact hu
    · simp at hj⟩⟩
def schX : Sch := ⟨[⟨⟨#[105, 100]⟩, 2, false⟩], 1⟩
def tabsX : List Tab := [⟨⟨#[116]⟩, schX⟩, ⟨⟨#[117]⟩, schX⟩]
def wrkX : List Wrk := [⟨⟨#[116]⟩, true, ⟨#[]⟩⟩]
def rowX : List Val := [⟨2, 1, ⟨#[]⟩⟩]
def evX (s : ByteArray) : Ev := ⟨3, 0, s, [], rowX, zChg⟩
theorem keyT_X : keyT tabsX := by
  refine ⟨?_, by decide, fun t ht => ?_⟩
  · unfold sortT tabsX
    rw [List.pairwise_pair]
    decide
  · unfold tabsX at ht
    simp only [List.mem_cons, List.not_mem_nil, or_false] at ht
    rcases ht with rfl | rfl
    · exact ⟨by decide, by decide, by decide⟩
    · exact ⟨by decide, by decide, by decide⟩
theorem sortW_X : sortW wrkX := List.pairwise_singleton _ _
theorem okRow_X : okRow rowX := ⟨fun v hv => by rw [show rowX = [⟨2, 1, ⟨#[]⟩⟩] from rfl, List.mem_singleton] at hv; subst hv; exact Nat.zero_le _, fun v hv => by rw [show rowX = [⟨2, 1, ⟨#[]⟩⟩] from rfl, List.mem_singleton] at hv; subst hv; unfold i64Ok; decide, by decide⟩
theorem okEv_X (s : ByteArray) : okEv (evX s) := ⟨⟨fun v hv => absurd hv (by simp [evX]), fun v hv => absurd hv (by simp [evX]), by simp [evX]⟩, okRow_X, by simp [evX, zChg, zSch]⟩
theorem route_X : routeR tabsX wrkX [evX ⟨#[116]⟩, evX ⟨#[117]⟩] = [⟨1, ⟨#[116]⟩, rowX, zChg⟩] := by kernel_rfl
theorem RouteTell.one {w w' : World} {x : Wri} {y : Wrk} {err : Int} {e : Ending} (h : RouteTell w [x] [y] err e w') : ∃ (D : Option Addr) (d : Nat) (F : Option Addr) (f : Nat), e = .returned (.tuple #[.slice D 1 d, .slice F 1 f, .int .i64 err]) ∧ kWri.C w' D 1 [x] ∧ Below w.heap.size w w' := by
  obtain ⟨D, d, F, f, h1, _, h2, _, _, h3⟩ := h
  exact ⟨D, d, F, f, h1, h2, h3⟩
set_option maxRecDepth 100000 in
set_option maxHeartbeats 8000000 in
theorem lives18_calls (w : World) (hT : TabsU w) : Calls Tryz.prog 14 #[] w fun e w' => e = .returned (.bool true) ∧ Below w.heap.size w w' := by
  have HT := Aside0.mk hT
  clear hT
  go_enter Tryz.func14, Tryz.ntmps14
  go_upto_region 4 with fail
  have h4 := alloc4 w (.cells #[.string ⟨#[105, 100]⟩, .int .i64 2, .bool false] 51) (.cells #[.slice (some ⟨w.heap.size, 0, none⟩) 1 1, .int .i64 1] 43) (.cells #[.string ⟨#[116]⟩, .slice (some ⟨w.heap.size, 0, none⟩) 1 1, .int .i64 1, .string ⟨#[117]⟩, .slice (some ⟨w.heap.size, 0, none⟩) 1 1, .int .i64 1] 45) (.cells #[.int .i64 2, .int .i64 1, .string ⟨#[]⟩] 75)
  generalize (((w.alloc (.cells #[.string ⟨#[105, 100]⟩, .int .i64 2, .bool false] 51)).alloc (.cells #[.slice (some ⟨w.heap.size, 0, none⟩) 1 1, .int .i64 1] 43)).alloc (.cells #[.string ⟨#[116]⟩, .slice (some ⟨w.heap.size, 0, none⟩) 1 1, .int .i64 1, .string ⟨#[117]⟩, .slice (some ⟨w.heap.size, 0, none⟩) 1 1, .int .i64 1] 45)).alloc (.cells #[.int .i64 2, .int .i64 1, .string ⟨#[]⟩] 75) = W4 at *
  obtain ⟨h0, _, h2, h3, hb4, hs4⟩ := h4
  have hb6 : Below W4.heap.size W4 ((W4.alloc (.cells #[.string ⟨#[116]⟩, .bool true, .string ⟨#[]⟩] 47)).alloc (.cells #[.int .i64 3, .int .i64 0, .string ⟨#[116]⟩, .slice none 0 0, .slice (some ⟨w.heap.size + 1 + 1 + 1, 0, none⟩) 1 1, .int .i64 0, .string ⟨#[]⟩, .slice none 0 0, .int .i64 0, .string ⟨#[]⟩, .int .i64 0, .bool false, .int .i64 3, .int .i64 0, .string ⟨#[117]⟩, .slice none 0 0, .slice (some ⟨w.heap.size + 1 + 1 + 1, 0, none⟩) 1 1, .int .i64 0, .string ⟨#[]⟩, .slice none 0 0, .int .i64 0, .string ⟨#[]⟩, .int .i64 0, .bool false] 55)) := below_alloc (below_alloc (Below.refl _ _) _) _
  have k5 : ((W4.alloc (.cells #[.string ⟨#[116]⟩, .bool true, .string ⟨#[]⟩] 47)).alloc (.cells #[.int .i64 3, .int .i64 0, .string ⟨#[116]⟩, .slice none 0 0, .slice (some ⟨w.heap.size + 1 + 1 + 1, 0, none⟩) 1 1, .int .i64 0, .string ⟨#[]⟩, .slice none 0 0, .int .i64 0, .string ⟨#[]⟩, .int .i64 0, .bool false, .int .i64 3, .int .i64 0, .string ⟨#[117]⟩, .slice none 0 0, .slice (some ⟨w.heap.size + 1 + 1 + 1, 0, none⟩) 1 1, .int .i64 0, .string ⟨#[]⟩, .slice none 0 0, .int .i64 0, .string ⟨#[]⟩, .int .i64 0, .bool false] 55)).heap[W4.heap.size]? = some (.cells #[.string ⟨#[116]⟩, .bool true, .string ⟨#[]⟩] 47 (0, 0)) := ((below_alloc (Below.refl (W4.alloc (.cells #[.string ⟨#[116]⟩, .bool true, .string ⟨#[]⟩] 47)).heap.size (W4.alloc (.cells #[.string ⟨#[116]⟩, .bool true, .string ⟨#[]⟩] 47))) _).block _ (by simp)).trans (heap_alloc_new _ _)
  have k6 : ((W4.alloc (.cells #[.string ⟨#[116]⟩, .bool true, .string ⟨#[]⟩] 47)).alloc (.cells #[.int .i64 3, .int .i64 0, .string ⟨#[116]⟩, .slice none 0 0, .slice (some ⟨w.heap.size + 1 + 1 + 1, 0, none⟩) 1 1, .int .i64 0, .string ⟨#[]⟩, .slice none 0 0, .int .i64 0, .string ⟨#[]⟩, .int .i64 0, .bool false, .int .i64 3, .int .i64 0, .string ⟨#[117]⟩, .slice none 0 0, .slice (some ⟨w.heap.size + 1 + 1 + 1, 0, none⟩) 1 1, .int .i64 0, .string ⟨#[]⟩, .slice none 0 0, .int .i64 0, .string ⟨#[]⟩, .int .i64 0, .bool false] 55)).heap[W4.heap.size + 1]? = some (.cells #[.int .i64 3, .int .i64 0, .string ⟨#[116]⟩, .slice none 0 0, .slice (some ⟨w.heap.size + 1 + 1 + 1, 0, none⟩) 1 1, .int .i64 0, .string ⟨#[]⟩, .slice none 0 0, .int .i64 0, .string ⟨#[]⟩, .int .i64 0, .bool false, .int .i64 3, .int .i64 0, .string ⟨#[117]⟩, .slice none 0 0, .slice (some ⟨w.heap.size + 1 + 1 + 1, 0, none⟩) 1 1, .int .i64 0, .string ⟨#[]⟩, .slice none 0 0, .int .i64 0, .string ⟨#[]⟩, .int .i64 0, .bool false] 55 (0, 0)) := by have := heap_alloc_new (W4.alloc (.cells #[.string ⟨#[116]⟩, .bool true, .string ⟨#[]⟩] 47)) (.cells #[.int .i64 3, .int .i64 0, .string ⟨#[116]⟩, .slice none 0 0, .slice (some ⟨w.heap.size + 1 + 1 + 1, 0, none⟩) 1 1, .int .i64 0, .string ⟨#[]⟩, .slice none 0 0, .int .i64 0, .string ⟨#[]⟩, .int .i64 0, .bool false, .int .i64 3, .int .i64 0, .string ⟨#[117]⟩, .slice none 0 0, .slice (some ⟨w.heap.size + 1 + 1 + 1, 0, none⟩) 1 1, .int .i64 0, .string ⟨#[]⟩, .slice none 0 0, .int .i64 0, .string ⟨#[]⟩, .int .i64 0, .bool false] 55); rwa [World.size_alloc] at this
  have hC0 : kCol.C ((W4.alloc (.cells #[.string ⟨#[116]⟩, .bool true, .string ⟨#[]⟩] 47)).alloc (.cells #[.int .i64 3, .int .i64 0, .string ⟨#[116]⟩, .slice none 0 0, .slice (some ⟨w.heap.size + 1 + 1 + 1, 0, none⟩) 1 1, .int .i64 0, .string ⟨#[]⟩, .slice none 0 0, .int .i64 0, .string ⟨#[]⟩, .int .i64 0, .bool false, .int .i64 3, .int .i64 0, .string ⟨#[117]⟩, .slice none 0 0, .slice (some ⟨w.heap.size + 1 + 1 + 1, 0, none⟩) 1 1, .int .i64 0, .string ⟨#[]⟩, .slice none 0 0, .int .i64 0, .string ⟨#[]⟩, .int .i64 0, .bool false] 55)) (some ⟨w.heap.size, 0, none⟩) 1 [⟨⟨#[105, 100]⟩, 2, false⟩] := C_one (blk_below h0 hb6) (kCol_mk _ _)
  have hCR : kVal.C ((W4.alloc (.cells #[.string ⟨#[116]⟩, .bool true, .string ⟨#[]⟩] 47)).alloc (.cells #[.int .i64 3, .int .i64 0, .string ⟨#[116]⟩, .slice none 0 0, .slice (some ⟨w.heap.size + 1 + 1 + 1, 0, none⟩) 1 1, .int .i64 0, .string ⟨#[]⟩, .slice none 0 0, .int .i64 0, .string ⟨#[]⟩, .int .i64 0, .bool false, .int .i64 3, .int .i64 0, .string ⟨#[117]⟩, .slice none 0 0, .slice (some ⟨w.heap.size + 1 + 1 + 1, 0, none⟩) 1 1, .int .i64 0, .string ⟨#[]⟩, .slice none 0 0, .int .i64 0, .string ⟨#[]⟩, .int .i64 0, .bool false] 55)) (some ⟨w.heap.size + 1 + 1 + 1, 0, none⟩) 1 rowX := C_one (blk_below h3 hb6) (kVal_mk _ _)
  have hR : Calls Tryz.prog 10 #[.slice (some ⟨w.heap.size + 1 + 1, 0, none⟩) 2 2, .slice (some ⟨W4.heap.size, 0, none⟩) 1 1, .slice (some ⟨W4.heap.size + 1, 0, none⟩) 2 2] ((W4.alloc (.cells #[.string ⟨#[116]⟩, .bool true, .string ⟨#[]⟩] 47)).alloc (.cells #[.int .i64 3, .int .i64 0, .string ⟨#[116]⟩, .slice none 0 0, .slice (some ⟨w.heap.size + 1 + 1 + 1, 0, none⟩) 1 1, .int .i64 0, .string ⟨#[]⟩, .slice none 0 0, .int .i64 0, .string ⟨#[]⟩, .int .i64 0, .bool false, .int .i64 3, .int .i64 0, .string ⟨#[117]⟩, .slice none 0 0, .slice (some ⟨w.heap.size + 1 + 1 + 1, 0, none⟩) 1 1, .int .i64 0, .string ⟨#[]⟩, .slice none 0 0, .int .i64 0, .string ⟨#[]⟩, .int .i64 0, .bool false] 55)) (RouteTell ((W4.alloc (.cells #[.string ⟨#[116]⟩, .bool true, .string ⟨#[]⟩] 47)).alloc (.cells #[.int .i64 3, .int .i64 0, .string ⟨#[116]⟩, .slice none 0 0, .slice (some ⟨w.heap.size + 1 + 1 + 1, 0, none⟩) 1 1, .int .i64 0, .string ⟨#[]⟩, .slice none 0 0, .int .i64 0, .string ⟨#[]⟩, .int .i64 0, .bool false, .int .i64 3, .int .i64 0, .string ⟨#[117]⟩, .slice none 0 0, .slice (some ⟨w.heap.size + 1 + 1 + 1, 0, none⟩) 1 1, .int .i64 0, .string ⟨#[]⟩, .slice none 0 0, .int .i64 0, .string ⟨#[]⟩, .int .i64 0, .bool false] 55)) [⟨1, ⟨#[116]⟩, rowX, zChg⟩] wrkX 0) := by
    rw [← route_X]
    exact routeR_calls (some ⟨w.heap.size + 1 + 1, 0, none⟩) 2 tabsX (some ⟨W4.heap.size, 0, none⟩) 1 wrkX (some ⟨W4.heap.size + 1, 0, none⟩) 2 [evX ⟨#[116]⟩, evX ⟨#[117]⟩] keyT_X sortW_X (by decide) ((W4.alloc (.cells #[.string ⟨#[116]⟩, .bool true, .string ⟨#[]⟩] 47)).alloc (.cells #[.int .i64 3, .int .i64 0, .string ⟨#[116]⟩, .slice none 0 0, .slice (some ⟨w.heap.size + 1 + 1 + 1, 0, none⟩) 1 1, .int .i64 0, .string ⟨#[]⟩, .slice none 0 0, .int .i64 0, .string ⟨#[]⟩, .int .i64 0, .bool false, .int .i64 3, .int .i64 0, .string ⟨#[117]⟩, .slice none 0 0, .slice (some ⟨w.heap.size + 1 + 1 + 1, 0, none⟩) 1 1, .int .i64 0, .string ⟨#[]⟩, .slice none 0 0, .int .i64 0, .string ⟨#[]⟩, .int .i64 0, .bool false] 55))
      (C_two (cs := [.string ⟨#[116]⟩, .slice (some ⟨w.heap.size, 0, none⟩) 1 1, .int .i64 1]) (ds := [.string ⟨#[117]⟩, .slice (some ⟨w.heap.size, 0, none⟩) 1 1, .int .i64 1]) (blk_below h2 hb6) (kTab_mk _ ⟨⟨#[116]⟩, schX⟩ (Nat.le_refl _) hC0) (kTab_mk _ ⟨⟨#[117]⟩, schX⟩ (Nat.le_refl _) hC0))
      (C_one k5 (kWrk_mk _ _)) (HT.out.below (bmore hb4 hb6))
      (C_two (cs := [.int .i64 3, .int .i64 0, .string ⟨#[116]⟩, .slice none 0 0, .slice (some ⟨w.heap.size + 1 + 1 + 1, 0, none⟩) 1 1, .int .i64 0, .string ⟨#[]⟩, .slice none 0 0, .int .i64 0, .string ⟨#[]⟩, .int .i64 0, .bool false]) (ds := [.int .i64 3, .int .i64 0, .string ⟨#[117]⟩, .slice none 0 0, .slice (some ⟨w.heap.size + 1 + 1 + 1, 0, none⟩) 1 1, .int .i64 0, .string ⟨#[]⟩, .slice none 0 0, .int .i64 0, .string ⟨#[]⟩, .int .i64 0, .bool false]) k6 (kEv_mk _ (evX ⟨#[116]⟩) (Nat.le_refl _) (Kd.C_nil _ _) (Nat.le_refl _) hCR (Nat.le_refl _) (Kd.C_nil _ _)) (kEv_mk _ (evX ⟨#[117]⟩) (Nat.le_refl _) (Kd.C_nil _ _) (Nat.le_refl _) hCR (Nat.le_refl _) (Kd.C_nil _ _)))
      (fun e he => by
        simp only [List.mem_cons, List.not_mem_nil, or_false] at he
        rcases he with rfl | rfl
        · exact ⟨okEv_X _, by decide⟩
        · exact ⟨okEv_X _, by decide⟩) (by decide)
  have HR := Aside0.mk hR
  have HB6 := Aside0.mk (bmore hb4 hb6)
  clear hR hC0 hCR k5 k6 h0 h2 h3 hb6 hb4 hs4
  go_upto_region 5 with (go_at_call 10; (with_reducible refine (HR.out).mono ?_); rintro e w7 h7; obtain ⟨D, d, F, f, rfl, hCw, hb7⟩ := RouteTell.one h7)
  obtain ⟨ad, A2, c2, A5, c5, rfl, d0, d1, _⟩ := at_Wri hCw 0 (by decide)
  have e1 : w7.cell? ⟨ad.block, ad.off + 1, none⟩ = some (.string ⟨#[116]⟩) := by
    rw [show ad.add (0 * 10) = ad by simp [Addr.add]] at d1
    exact d1
  clear d0 d1
  go_wp2
  go_ret
  exact ⟨rfl, bmore HB6.out hb7⟩
end Go.Proofs.YtmdofdaiepilbaaGreatDoor

/- The document's Covered. Conditions: the tables and works read so, sorted by their names; the tables' keys lie in their columns; the row's texts and numbers are of their size. -/
namespace Go.Proofs.YtmdofdaiepilbaaGreatDoor
open Go.RowKit Go.Proofs.YtmdofdaiepilbaaGreatDoorW.PrintWords Go.Proofs.YtmdofdaiepilbaaGreatDoorW.PrintMore
set_option linter.unusedVariables false
set_option linter.unusedSimpArgs false
set_option maxRecDepth 100000 in
set_option maxHeartbeats 8000000 in
theorem covered18_calls (A : Option Addr) (c : Nat) (l : List Tab) (A' : Option Addr) (c' : Nat) (wk : List Wrk) (tb : ByteArray) (R : Option Addr) (rc : Nat)
    (hk : keyT l) (hw : sortW wk) (w : World) (hC : kTab.C w A l.length l) (hW : kWrk.C w A' wk.length wk) (row : List Val) (hrow : okRow row) (hR : kVal.C w R row.length row) (hrc : row.length ≤ rc) :
    Calls Tryz.prog 37 #[.slice A l.length c, .slice A' wk.length c', .string tb, .slice R row.length rc] w fun e w' => e = .returned (.bool (hasT l tb && covE l wk tb row)) ∧ Below w.heap.size w w' := by
  have HF := Aside0.mk (refFind_calls A c l tb hk.1 w hC)
  have HV := Aside0.mk (fun (W : World) (hb : Below w.heap.size w W) => covers11_calls A' c' wk tb (keyE (schT l tb).cols (schT l tb).keys row).1 hw W (Kd.C_below hW hb))
  have hks := hk.sch tb
  have hcv : (hasT l tb && covE l wk tb row) = (hasT l tb && (decide ((keyE (schT l tb).cols (schT l tb).keys row).2 = 0) && covB wk tb (keyE (schT l tb).cols (schT l tb).keys row).1)) := rfl
  generalize (hasT l tb && covE l wk tb row) = X at hcv ⊢
  have hke := keyE_err (schT l tb).cols (schT l tb).keys row
  have HK := Aside0.mk (fun (W : World) (hb : Below w.heap.size w W) (A3 : Option Addr) (c3 : Nat) (hCC : kCol.C W A3 (schT l tb).cols.length (schT l tb).cols) =>
    key04_calls A3 c3 (schT l tb).cols (schT l tb).keys hks.1 hks.2.1 hks.2.2 R rc row hrc W hCC (Kd.C_below hR hb) hrow.txt hrow.num)
  have HCV := Aside0.mk hcv
  clear hR hcv hC hW hks hk hw hrow
  generalize (keyE (schT l tb).cols (schT l tb).keys row) = ke at *
  obtain ⟨key, err⟩ := ke
  simp only at hke
  generalize covB wk tb key = cb at *
  go_enter Tryz.func37, Tryz.ntmps37
  go_upto_region 2 with (go_at_call 43; (with_reducible refine (HF.out).mono ?_); rintro e w1 ⟨A3, c3, rfl, hl3, hC3, hb1⟩)
  have hb2 : Below w1.heap.size w1 (w1.alloc (.cells #[.slice A3 (schT l tb).cols.length c3, .int .i64 (schT l tb).keys] 43)) := below_alloc (Below.refl _ _) _
  have h3 : (w1.alloc (.cells #[.slice A3 (schT l tb).cols.length c3, .int .i64 (schT l tb).keys] 43)).heap[w1.heap.size]? = some (.cells #[.slice A3 (schT l tb).cols.length c3, .int .i64 (schT l tb).keys] 43 (0, 0)) := heap_alloc_new _ _
  generalize w1.alloc (.cells #[.slice A3 (schT l tb).cols.length c3, .int .i64 (schT l tb).keys] 43) = W2 at *
  have s0 : W2.cell? ⟨w1.heap.size, 0, none⟩ = some (.slice A3 (schT l tb).cols.length c3) := cell_of_row _ _ 0 _ _ _ h3
  have s1 : W2.cell? ⟨w1.heap.size, 1, none⟩ = some (.int .i64 (schT l tb).keys) := cell_of_row _ _ 1 _ _ _ h3
  have HB3 := Aside0.mk (bmore hb1 hb2)
  have HKC := Aside0.mk (HK.out W2 HB3.out A3 c3 (Kd.C_below hC3 hb2))
  clear h3 hb1 hb2 hC3 hl3 HK
  generalize (schT l tb) = sc at *
  generalize hasT l tb = hh at *
  rcases hke with rfl | rfl <;> cases hh
  all_goals
    go_wp2_with (first
      | (go_at_call 46; (with_reducible refine (HKC.out).mono ?_); rintro e w3 ⟨rfl, hb4⟩; have HB4 := Aside0.mk hb4; clear hb4)
      | (go_at_call 66; (with_reducible refine (HV.out _ (bmore HB3.out HB4.out)).mono ?_); rintro e w4 ⟨rfl, hw4⟩; have hw5 := hw4.symm; clear hw4; subst hw5))
    go_ret
    exact ⟨retB (HCV.out.trans rfl), bmore HB3.out HB4.out⟩
end Go.Proofs.YtmdofdaiepilbaaGreatDoor

/- cover.Rows and the document's: the rows that are covered. Conditions: those of covered; few rows. -/
namespace Go.Proofs.YtmdofdaiepilbaaGreatDoor
open Go.RowKit Go.Proofs.YtmdofdaiepilbaaGreatDoorW.PrintWords Go.Proofs.YtmdofdaiepilbaaGreatDoorW.PrintMore
set_option linter.unusedVariables false
set_option linter.unusedSimpArgs false
def covRows (p : List Val → Bool) (rows : List (List Val)) : List (List Val) := rows.filter p
theorem covRows_snoc (p : List Val → Bool) (rows : List (List Val)) (k : Nat) (h : k < rows.length) : covRows p (rows.take (k + 1)) = if p (rdL rows k) then covRows p (rows.take k) ++ [rdL rows k] else covRows p (rows.take k) := by
  have e : rows.take (k + 1) = rows.take k ++ [rdL rows k] := by
    rw [List.take_add_one, List.getElem?_eq_getElem h]
    unfold rdL
    simp [List.getD_eq_getElem?_getD, h]
  unfold covRows
  rw [e, List.filter_append]
  cases hp : p (rdL rows k)
  · simp [hp]
  · simp [hp]
theorem covRows_len (p : List Val → Bool) (rows : List (List Val)) (k : Nat) : (covRows p (rows.take k)).length ≤ k := by
  unfold covRows
  have := List.length_filter_le p (rows.take k)
  rw [List.length_take] at this
  omega
theorem rdL_get' {α : Type} {l : List (List α)} {k : Nat} (h : k < l.length) : rdL l k = l[k] := by unfold rdL; simp [List.getD_eq_getElem?_getD, h]
set_option maxRecDepth 100000 in
set_option maxHeartbeats 8000000 in
theorem coverRows_calls (A : Option Addr) (c : Nat) (l : List Tab) (A' : Option Addr) (c' : Nat) (wk : List Wrk) (tb : ByteArray) (R : Option Addr) (rc : Nat)
    (hk : keyT l) (hw : sortW wk) (hwl : wk.length ≤ 1000000) (w : World) (hC : kTab.C w A l.length l) (hW : kWrk.C w A' wk.length wk) (hT : TabsU w) (rows : List (List Val)) (hrows : ∀ r ∈ rows, okRow r) (hrl : rows.length ≤ 100000) (hR : kRow.C w R rows.length rows) :
    Calls Tryz.prog 20 #[.slice A l.length c, .slice A' wk.length c', .string tb, .slice R rows.length rc] w fun e w' => ∃ v, e = .returned v ∧ Own kRow 49 w' w.heap.size v (covRows (covE l wk tb) rows) ∧ Below w.heap.size w w' := by
  have HCov := Aside0.mk (fun (W : World) (hb : Below w.heap.size w W) (R0 : Option Addr) (r0 : Nat) (row : List Val) (hrow : okRow row) (hr0 : row.length ≤ r0) (h : kVal.C W R0 row.length row) => covered_calls A c l A' c' wk 3 0 tb none R0 0 0 row.length r0 0 ⟨#[]⟩ none 0 0 0 ⟨#[]⟩ 0 false hk hw hwl W (Kd.C_below hC hb) (Kd.C_below hW hb) (hT.below hb) row hrow (by rw [if_neg (by decide)]; exact ⟨h, rfl, hr0⟩))
  have HR := Aside0.mk hR
  have HRows := Aside0.mk hrows
  clear hC hW hT hR hk hw hrows
  generalize covE l wk tb = p at *
  go_enter Tryz.func20, Tryz.ntmps20
  go_wp2
  go_loopw [9, 14] (fun v i wr => ∃ k : Nat, k ≤ rows.length ∧ i = .int .i64 k ∧ Own kRow 49 wr w.heap.size v (covRows p (rows.take k)) ∧ Below w.heap.size w wr) (fun _ i _ => rows.length - (intOf i).toNat)
  case atStart => exact ⟨0, by omega, rfl, Own.nil _ _ _ _, Below.refl _ _⟩
  case round =>
    obtain ⟨k, hkl, rfl, hO, hbel⟩ := hrel
    have HO := Aside0.mk hO
    have HBel := Aside0.mk hbel
    clear hO hbel
    by_cases hlt : k < rows.length
    case neg =>
      obtain rfl : k = rows.length := by omega
      have hO := HO.out
      rw [List.take_length] at hO
      have HO2 := Aside0.mk hO
      clear hO
      go_wp2
      go_ret
      exact ⟨_, rfl, HO2.out, HBel.out⟩
    have hlt' : ((k : Nat) : Int) < (rows.length : Int) := by omega
    obtain ⟨bd, R0, r0, rfl, d0, hr0, hR0⟩ := at_slice (d := kVal) (e := 75) HR.out k hlt
    replace d0 := pw_cell_below HBel.out d0
    have hrk := HRows.out _ (List.getElem_mem hlt)
    rw [← rdL_get' hlt] at hrk
    have hsn := covRows_snoc p rows k hlt
    have hll := covRows_len p rows k
    have HCv := Aside0.mk (HCov.out wr HBel.out R0 r0 (rdL rows k) hrk hr0 (Kd.C_below hR0 HBel.out))
    have HCl := Aside0.mk (fun (W : World) (hb : Below w.heap.size w W) => cloneVal_calls R0 (rdL rows k).length r0 (rdL rows k) W (Kd.C_below hR0 hb) (by have := hrk.len; omega))
    clear hR0 hr0 hrk
    generalize rdL rows k = row at *
    generalize covRows p (rows.take k) = out at *
    generalize p row = b at *
    cases b
    · simp only [Bool.false_eq_true, if_false] at hsn
      have HSn := Aside0.mk hsn
      clear hsn
      go_wp2_with (go_at_call 33; (with_reducible refine (HCv.out).mono ?_); rintro e w1 ⟨rfl, hb1⟩; have HB1 := Aside0.mk hb1; clear hb1)
      go_roundw
      case rel => exact ⟨k + 1, by omega, by go_num, by rw [HSn.out]; exact HO.out.below HB1.out, bmore HBel.out HB1.out⟩
      case measure => simp [intOf]; omega
    · simp only [if_true] at hsn
      have HSn := Aside0.mk hsn
      clear hsn
      go_wp2_with (first
        | (go_at_call 33; (with_reducible refine (HCv.out).mono ?_); rintro e w1 ⟨rfl, hb1⟩; have HB1 := Aside0.mk hb1; clear hb1)
        | (go_at_call 42; (with_reducible refine (HCl.out _ (bmore HBel.out HB1.out)).mono ?_); rintro e w2 ⟨v2, rfl, hR2, hb2⟩; obtain ⟨A2, c2, rfl⟩ := Kd.R_slice hR2; have HR2 := Aside0.mk hR2; have HB2 := Aside0.mk hb2; have HFK := Aside0.mk (fk_Row (Kd.N_reads' (Kd.R_N HR2.out)).2.1 (Kd.R_F (Kd.R_bound HR2.out))); have HO2 := Aside0.mk ((HO.out.below HB1.out).below HB2.out); have HB3 := Aside0.mk (bmore (bmore HBel.out HB1.out) HB2.out); clear hR2 hb2)
        | (at_builtin; refine pushRow (w0 := w) (W := w2) w.heap.size rfl (.tmp 24) (.tmp 27) rfl u9 out row [.slice A2 row.length c2] _ rfl rfl HFK.out (fun k hk he => by have := (HO.out.below HB1.out).fits k he.symm; have := hk.2.1; omega) HO2.out HB3.out HB3.out.size (by omega) ?_; intro v3 w3 hN3 hb3))
      go_roundw
      case rel => exact ⟨k + 1, by omega, by go_num, by rw [HSn.out]; exact hN3, hb3⟩
      case measure => simp [intOf]; omega
set_option maxRecDepth 100000 in
set_option maxHeartbeats 8000000 in
theorem rows18_calls (A : Option Addr) (c : Nat) (l : List Tab) (A' : Option Addr) (c' : Nat) (wk : List Wrk) (tb : ByteArray) (R : Option Addr) (rc : Nat)
    (hk : keyT l) (hw : sortW wk) (w : World) (hC : kTab.C w A l.length l) (hW : kWrk.C w A' wk.length wk) (rows : List (List Val)) (hrows : ∀ r ∈ rows, okRow r) (hrl : rows.length ≤ 100000) (hR : kRow.C w R rows.length rows) :
    Calls Tryz.prog 21 #[.slice A l.length c, .slice A' wk.length c', .string tb, .slice R rows.length rc] w fun e w' => ∃ v, e = .returned v ∧ Own kRow 49 w' w.heap.size v (covRows (fun r => hasT l tb && covE l wk tb r) rows) ∧ Below w.heap.size w w' := by
  obtain ⟨p, hp⟩ : ∃ p : List Val → Bool, ∀ r, p r = (hasT l tb && covE l wk tb r) := ⟨_, fun _ => rfl⟩
  rw [show (fun r => hasT l tb && covE l wk tb r) = p from funext fun r => (hp r).symm]
  have HCov := Aside0.mk (fun (W : World) (hb : Below w.heap.size w W) (R0 : Option Addr) (r0 : Nat) (row : List Val) (hrow : okRow row) (hr0 : row.length ≤ r0) (h : kVal.C W R0 row.length row) => (by have h1 := covered18_calls A c l A' c' wk tb R0 r0 hk hw W (Kd.C_below hC hb) (Kd.C_below hW hb) row hrow h hr0; rw [← hp row] at h1; exact h1 : Calls Tryz.prog 37 #[.slice A l.length c, .slice A' wk.length c', .string tb, .slice R0 row.length r0] W fun e w' => e = .returned (.bool (p row)) ∧ Below W.heap.size W w'))
  have HR := Aside0.mk hR
  have HRows := Aside0.mk hrows
  clear hC hW hR hk hw hrows hp
  go_enter Tryz.func21, Tryz.ntmps21
  go_wp2
  go_loopw [9, 10] (fun v i wr => ∃ k : Nat, k ≤ rows.length ∧ i = .int .i64 k ∧ Own kRow 49 wr w.heap.size v (covRows p (rows.take k)) ∧ Below w.heap.size w wr) (fun _ i _ => rows.length - (intOf i).toNat)
  case atStart => exact ⟨0, by omega, rfl, Own.nil _ _ _ _, Below.refl _ _⟩
  case round =>
    obtain ⟨k, hkl, rfl, hO, hbel⟩ := hrel
    have HO := Aside0.mk hO
    have HBel := Aside0.mk hbel
    clear hO hbel
    by_cases hlt : k < rows.length
    case neg =>
      obtain rfl : k = rows.length := by omega
      have hO := HO.out
      rw [List.take_length] at hO
      have HO2 := Aside0.mk hO
      clear hO
      go_wp2
      go_ret
      exact ⟨_, rfl, HO2.out, HBel.out⟩
    have hlt' : ((k : Nat) : Int) < (rows.length : Int) := by omega
    obtain ⟨bd, R0, r0, rfl, d0, hr0, hR0⟩ := at_slice (d := kVal) (e := 75) HR.out k hlt
    have HD0 := Aside0.mk d0
    replace d0 := pw_cell_below HBel.out d0
    have hrk := HRows.out _ (List.getElem_mem hlt)
    rw [← rdL_get' hlt] at hrk
    have hsn := covRows_snoc p rows k hlt
    have hll := covRows_len p rows k
    have HCv := Aside0.mk (HCov.out wr HBel.out R0 r0 (rdL rows k) hrk hr0 (Kd.C_below hR0 HBel.out))
    have HRF := Aside0.mk (fk_Row hr0 (Kd.C_F heap_Val hR0))
    clear hR0 hr0 hrk
    generalize rdL rows k = row at *
    generalize covRows p (rows.take k) = out at *
    generalize p row = b at *
    cases b
    · simp only [Bool.false_eq_true, if_false] at hsn
      have HSn := Aside0.mk hsn
      clear hsn
      go_wp2_with (go_at_call 37; (with_reducible refine (HCv.out).mono ?_); rintro e w1 ⟨rfl, hb1⟩; have HB1 := Aside0.mk hb1; clear hb1)
      go_roundw
      case rel => exact ⟨k + 1, by omega, by go_num, by rw [HSn.out]; exact HO.out.below HB1.out, bmore HBel.out HB1.out⟩
      case measure => simp [intOf]; omega
    · simp only [if_true] at hsn
      have HSn := Aside0.mk hsn
      clear hsn
      go_wp2_with (first
        | (go_at_call 37; (with_reducible refine (HCv.out).mono ?_); rintro e w1 ⟨rfl, hb1⟩; have HB1 := Aside0.mk (bmore HBel.out hb1); have HO1 := Aside0.mk (HO.out.below hb1); have d1 := pw_cell_below HB1.out HD0.out; clear hb1)
        | (at_builtin; refine pushRow (w0 := w) (W := w1) w.heap.size rfl (.tmp 27) (.tmp 32) rfl u9 out row [.slice R0 row.length r0] (fun k => k < w.heap.size) rfl rfl (Kd.FK_step HRF.out (fun k hk _ => HB1.out.block k hk)) (HO1.out.lt (fun k hk => hk)) HO1.out HB1.out HB1.out.size (by omega) ?_; intro v3 w3 hN3 hb3))
      go_roundw
      case rel => exact ⟨k + 1, by omega, by go_num, by rw [HSn.out]; exact hN3, hb3⟩
      case measure => simp [intOf]; omega
end Go.Proofs.YtmdofdaiepilbaaGreatDoor

/- cover.Chunk: the writes of a chunk. Conditions: the rows read so; few. -/
namespace Go.Proofs.YtmdofdaiepilbaaGreatDoor
open Go.RowKit Go.Proofs.YtmdofdaiepilbaaGreatDoorW.PrintWords
set_option linter.unusedVariables false
set_option linter.unusedSimpArgs false
def chunkW (tb : ByteArray) (rows : List (List Val)) : List Wri := rows.map (fun r => ⟨1, tb, r, zChg⟩)
theorem chunkW_snoc (tb : ByteArray) (rows : List (List Val)) (k : Nat) (h : k < rows.length) : chunkW tb (rows.take (k + 1)) = chunkW tb (rows.take k) ++ [⟨1, tb, rdL rows k, zChg⟩] := by
  have e : rows.take (k + 1) = rows.take k ++ [rdL rows k] := by
    rw [List.take_add_one, List.getElem?_eq_getElem h]
    unfold rdL
    simp [List.getD_eq_getElem?_getD, h]
  unfold chunkW
  rw [e, List.map_append]
  rfl
set_option maxRecDepth 100000 in
set_option maxHeartbeats 8000000 in
theorem chunk18_calls (tb : ByteArray) (R : Option Addr) (rc : Nat) (rows : List (List Val)) (hrows : ∀ r ∈ rows, r.length ≤ 1000000) (hrl : rows.length ≤ 100000) (w : World) (hR : kRow.C w R rows.length rows) :
    Calls Tryz.prog 22 #[.string tb, .slice R rows.length rc] w fun e w' => ∃ v, e = .returned v ∧ Own kWri 60 w' w.heap.size v (chunkW tb rows) ∧ Below w.heap.size w w' := by
  have HR := Aside0.mk hR
  have HRows := Aside0.mk hrows
  clear hR hrows
  go_enter Tryz.func22, Tryz.ntmps22
  go_wp2
  go_loopw [5, 10] (fun v i wr => ∃ k : Nat, k ≤ rows.length ∧ i = .int .i64 k ∧ Own kWri 60 wr w.heap.size v (chunkW tb (rows.take k)) ∧ Below w.heap.size w wr) (fun _ i _ => rows.length - (intOf i).toNat)
  case atStart => exact ⟨0, by omega, rfl, Own.nil _ _ _ _, Below.refl _ _⟩
  case round =>
    obtain ⟨k, hkl, rfl, hO, hbel⟩ := hrel
    have HO := Aside0.mk hO
    have HBel := Aside0.mk hbel
    clear hO hbel
    by_cases hlt : k < rows.length
    case neg =>
      obtain rfl : k = rows.length := by omega
      have hO := HO.out
      rw [List.take_length] at hO
      have HO2 := Aside0.mk hO
      clear hO
      go_wp2
      go_ret
      exact ⟨_, rfl, HO2.out, HBel.out⟩
    have hlt' : ((k : Nat) : Int) < (rows.length : Int) := by omega
    obtain ⟨bd, R0, r0, rfl, d0, hr0, hR0⟩ := at_slice (d := kVal) (e := 75) HR.out k hlt
    replace d0 := pw_cell_below HBel.out d0
    have hrk := HRows.out _ (List.getElem_mem hlt)
    rw [← rdL_get' hlt] at hrk
    have hsn := chunkW_snoc tb rows k hlt
    have hll : (chunkW tb (rows.take k)).length ≤ k := by unfold chunkW; rw [List.length_map, List.length_take]; omega
    have HCl := Aside0.mk (cloneVal_calls R0 (rdL rows k).length r0 (rdL rows k) wr (Kd.C_below hR0 HBel.out) (by omega))
    clear hR0 hr0 hrk
    generalize rdL rows k = row at *
    generalize chunkW tb (rows.take k) = out at *
    have HSn := Aside0.mk hsn
    clear hsn
    go_wp2_with (first
      | (go_at_call 42; (with_reducible refine (HCl.out).mono ?_); rintro e w2 ⟨v2, rfl, hR2, hb2⟩; obtain ⟨A2, c2, rfl⟩ := Kd.R_slice hR2; have HFK := Aside0.mk (fk_Wri (x := ⟨1, tb, row, zChg⟩) (Kd.N_reads' (Kd.R_N hR2)).2.1 (Kd.R_F (Kd.R_bound hR2)) (Nat.le_refl 0) (Kd.F_nil _ _ _)); have HO2 := Aside0.mk (HO.out.below hb2); have HB2 := Aside0.mk (bmore HBel.out hb2); clear hR2 hb2)
      | (at_builtin; refine pushWri (w0 := w) (W := w2) w.heap.size rfl (.tmp 14) (.tmp 19) rfl u5 out ⟨1, tb, row, zChg⟩ [.int .i64 1, .string tb, .slice A2 row.length c2, .int .i64 0, .string ⟨#[]⟩, .slice none 0 0, .int .i64 0, .string ⟨#[]⟩, .int .i64 0, .bool false] _ rfl rfl HFK.out (fun k hk he => by have := HO.out.fits k he.symm; have := hk.2.1; omega) HO2.out HB2.out HB2.out.size (by omega) ?_; intro v3 w3 hN3 hb3))
    go_roundw
    case rel => exact ⟨k + 1, by omega, by go_num, by rw [HSn.out]; exact hN3, hb3⟩
    case measure => simp [intOf]; omega
end Go.Proofs.YtmdofdaiepilbaaGreatDoor
