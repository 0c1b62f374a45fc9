/- The api's structs as Lean structures, and what their cells say. Written by a program (gen_kinds.py of this claim's author); lemmas alone. -/
import Derived.Test.YtapcoekakbbmcaaGreatDoorWWords
namespace Go.Proofs.YtapcoekakbbmcaaGreatDoor
open Go.RowKit Go.Proofs.YtapcoekakbbmcaaGreatDoorW.PrintWords
set_option linter.unusedVariables false
set_option linter.unusedSimpArgs false
/-! #### api.Value -/
structure Val where
  kind : Int
  num : Int
  text : ByteArray
def zVal : Val := ⟨(0 : Int), (0 : Int), (⟨#[]⟩ : ByteArray)⟩
def kVal : Kd Val := Kd.iso (Kd.pair (Kd.int .i64) (Kd.pair (Kd.int .i64) Kd.string)) (fun x : Val => (x.kind, x.num, x.text))
theorem kVal_open {w : World} {x : Val} {cs : List Value} (h : kVal.K w x cs) : cs = [.int .i64 x.kind, .int .i64 x.num, .string x.text] := by
  obtain ⟨_, _, rfl, rfl, ⟨_, _, rfl, rfl, rfl⟩⟩ := h
  exact rfl
theorem kVal_openM {w : World} {base : Nat} {ok : Nat → Prop} {x : Val} {cs : List Value} (h : kVal.M w base ok x cs) : cs = [.int .i64 x.kind, .int .i64 x.num, .string x.text] := by
  obtain ⟨_, _, rfl, rfl, ⟨_, _, rfl, rfl, rfl⟩⟩ := h
  exact rfl
theorem kVal_mk (w : World) (x : Val)  : kVal.K w x [.int .i64 x.kind, .int .i64 x.num, .string x.text] := ⟨[.int .i64 x.kind], [.int .i64 x.num, .string x.text], rfl, rfl, ⟨[.int .i64 x.num], [.string x.text], rfl, rfl, rfl⟩⟩
theorem kVal_mkM (w : World) (base : Nat) (ok : Nat → Prop) (x : Val)  : kVal.M w base ok x [.int .i64 x.kind, .int .i64 x.num, .string x.text] := ⟨[.int .i64 x.kind], [.int .i64 x.num, .string x.text], rfl, rfl, ⟨[.int .i64 x.num], [.string x.text], rfl, rfl, rfl⟩⟩
def rdVal (xs : List Val) (i : Nat) : Val := xs.getD i zVal
theorem at_Val {w : World} {A : Option Addr} {n : Nat} {xs : List Val} (h : Kd.C kVal w A n xs) (i : Nat) (h1 : i < n) : ∃ ad, A = some ad ∧ w.cell? (ad.add (i * 3)) = some (.int .i64 (rdVal xs i).kind) ∧ w.cell? ⟨(ad.add (i * 3)).block, (ad.add (i * 3)).off + 1, none⟩ = some (.int .i64 (rdVal xs i).num) ∧ w.cell? ⟨(ad.add (i * 3)).block, (ad.add (i * 3)).off + 2, none⟩ = some (.string (rdVal xs i).text) := by
  obtain ⟨ad, c, e, _, hK, hc0⟩ := Kd.C_get h zVal (i : Int) (by omega) (by omega)
  rw [Int.toNat_natCast] at hK hc0
  have hc : ∀ j u, c[j]? = some u → w.cell? (ad.add (i * 3 + j)) = some u := hc0
  obtain rfl := kVal_open hK
  exact ⟨ad, e, hc 0 _ rfl, by rw [← add_field _ _ 1 (by omega)]; exact hc 1 _ rfl, by rw [← add_field _ _ 2 (by omega)]; exact hc 2 _ rfl⟩

/-! #### api.Column -/
structure Col where
  name : ByteArray
  kind : Int
  none : Bool
def zCol : Col := ⟨(⟨#[]⟩ : ByteArray), (0 : Int), false⟩
def kCol : Kd Col := Kd.iso (Kd.pair Kd.string (Kd.pair (Kd.int .i64) Kd.bool)) (fun x : Col => (x.name, x.kind, x.none))
theorem kCol_open {w : World} {x : Col} {cs : List Value} (h : kCol.K w x cs) : cs = [.string x.name, .int .i64 x.kind, .bool x.none] := by
  obtain ⟨_, _, rfl, rfl, ⟨_, _, rfl, rfl, rfl⟩⟩ := h
  exact rfl
theorem kCol_openM {w : World} {base : Nat} {ok : Nat → Prop} {x : Col} {cs : List Value} (h : kCol.M w base ok x cs) : cs = [.string x.name, .int .i64 x.kind, .bool x.none] := by
  obtain ⟨_, _, rfl, rfl, ⟨_, _, rfl, rfl, rfl⟩⟩ := h
  exact rfl
theorem kCol_mk (w : World) (x : Col)  : kCol.K w x [.string x.name, .int .i64 x.kind, .bool x.none] := ⟨[.string x.name], [.int .i64 x.kind, .bool x.none], rfl, rfl, ⟨[.int .i64 x.kind], [.bool x.none], rfl, rfl, rfl⟩⟩
theorem kCol_mkM (w : World) (base : Nat) (ok : Nat → Prop) (x : Col)  : kCol.M w base ok x [.string x.name, .int .i64 x.kind, .bool x.none] := ⟨[.string x.name], [.int .i64 x.kind, .bool x.none], rfl, rfl, ⟨[.int .i64 x.kind], [.bool x.none], rfl, rfl, rfl⟩⟩
def rdCol (xs : List Col) (i : Nat) : Col := xs.getD i zCol
theorem at_Col {w : World} {A : Option Addr} {n : Nat} {xs : List Col} (h : Kd.C kCol w A n xs) (i : Nat) (h1 : i < n) : ∃ ad, A = some ad ∧ w.cell? (ad.add (i * 3)) = some (.string (rdCol xs i).name) ∧ w.cell? ⟨(ad.add (i * 3)).block, (ad.add (i * 3)).off + 1, none⟩ = some (.int .i64 (rdCol xs i).kind) ∧ w.cell? ⟨(ad.add (i * 3)).block, (ad.add (i * 3)).off + 2, none⟩ = some (.bool (rdCol xs i).none) := by
  obtain ⟨ad, c, e, _, hK, hc0⟩ := Kd.C_get h zCol (i : Int) (by omega) (by omega)
  rw [Int.toNat_natCast] at hK hc0
  have hc : ∀ j u, c[j]? = some u → w.cell? (ad.add (i * 3 + j)) = some u := hc0
  obtain rfl := kCol_open hK
  exact ⟨ad, e, hc 0 _ rfl, by rw [← add_field _ _ 1 (by omega)]; exact hc 1 _ rfl, by rw [← add_field _ _ 2 (by omega)]; exact hc 2 _ rfl⟩

/-! #### api.Schema -/
structure Sch where
  cols : List Col
  keys : Int
def zSch : Sch := ⟨([] : List Col), (0 : Int)⟩
def kSch : Kd Sch := Kd.iso (Kd.pair (Kd.slice 28 kCol) (Kd.int .i64)) (fun x : Sch => (x.cols, x.keys))
theorem kSch_open {w : World} {x : Sch} {cs : List Value} (h : kSch.K w x cs) : ∃ A0 c0, cs = [.slice A0 x.cols.length c0, .int .i64 x.keys] ∧ x.cols.length ≤ c0 ∧ kCol.C w A0 x.cols.length x.cols := by
  obtain ⟨_, _, rfl, ⟨A0, c0, rfl, l0, g0⟩, rfl⟩ := h
  exact ⟨A0, c0, rfl, l0, g0⟩
theorem kSch_openM {w : World} {base : Nat} {ok : Nat → Prop} {x : Sch} {cs : List Value} (h : kSch.M w base ok x cs) : ∃ v0, cs = [v0, .int .i64 x.keys] ∧ kCol.R 28 w base ok v0 x.cols := by
  obtain ⟨_, _, rfl, ⟨v0, rfl, g0⟩, rfl⟩ := h
  exact ⟨v0, rfl, g0⟩
theorem kSch_mk (w : World) (x : Sch) {A0 : Option Addr} {c0 : Nat} (l0 : x.cols.length ≤ c0) (g0 : kCol.C w A0 x.cols.length x.cols) : kSch.K w x [.slice A0 x.cols.length c0, .int .i64 x.keys] := ⟨[.slice A0 x.cols.length c0], [.int .i64 x.keys], rfl, ⟨A0, c0, rfl, l0, g0⟩, rfl⟩
theorem kSch_mkM (w : World) (base : Nat) (ok : Nat → Prop) (x : Sch) {v0 : Value} (g0 : kCol.R 28 w base ok v0 x.cols) : kSch.M w base ok x [v0, .int .i64 x.keys] := ⟨[v0], [.int .i64 x.keys], rfl, ⟨v0, rfl, g0⟩, rfl⟩
def rdSch (xs : List Sch) (i : Nat) : Sch := xs.getD i zSch
theorem at_Sch {w : World} {A : Option Addr} {n : Nat} {xs : List Sch} (h : Kd.C kSch w A n xs) (i : Nat) (h1 : i < n) : ∃ ad A0 c0, A = some ad ∧ w.cell? (ad.add (i * 2)) = some (.slice A0 (rdSch xs i).cols.length c0) ∧ w.cell? ⟨(ad.add (i * 2)).block, (ad.add (i * 2)).off + 1, none⟩ = some (.int .i64 (rdSch xs i).keys) ∧ (rdSch xs i).cols.length ≤ c0 ∧ kCol.C w A0 (rdSch xs i).cols.length (rdSch xs i).cols := by
  obtain ⟨ad, c, e, _, hK, hc0⟩ := Kd.C_get h zSch (i : Int) (by omega) (by omega)
  rw [Int.toNat_natCast] at hK hc0
  have hc : ∀ j u, c[j]? = some u → w.cell? (ad.add (i * 2 + j)) = some u := hc0
  obtain ⟨A0, c0, rfl, l0, g0⟩ := kSch_open hK
  exact ⟨ad, A0, c0, e, hc 0 _ rfl, by rw [← add_field _ _ 1 (by omega)]; exact hc 1 _ rfl, l0, g0⟩

/-! #### api.Change -/
structure Chg where
  kind : Int
  table : ByteArray
  schema : Sch
  column : Col
def zChg : Chg := ⟨(0 : Int), (⟨#[]⟩ : ByteArray), zSch, zCol⟩
def kChg : Kd Chg := Kd.iso (Kd.pair (Kd.int .i64) (Kd.pair Kd.string (Kd.pair kSch kCol))) (fun x : Chg => (x.kind, x.table, x.schema, x.column))
theorem kChg_open {w : World} {x : Chg} {cs : List Value} (h : kChg.K w x cs) : ∃ A2 c2, cs = [.int .i64 x.kind, .string x.table, .slice A2 x.schema.cols.length c2, .int .i64 x.schema.keys, .string x.column.name, .int .i64 x.column.kind, .bool x.column.none] ∧ x.schema.cols.length ≤ c2 ∧ kCol.C w A2 x.schema.cols.length x.schema.cols := by
  obtain ⟨_, _, rfl, rfl, ⟨_, _, rfl, rfl, ⟨_, _, rfl, s2, s4⟩⟩⟩ := h
  obtain ⟨A2, c2, rfl, l2, g2⟩ := kSch_open s2
  obtain rfl := kCol_open s4
  exact ⟨A2, c2, rfl, l2, g2⟩
theorem kChg_openM {w : World} {base : Nat} {ok : Nat → Prop} {x : Chg} {cs : List Value} (h : kChg.M w base ok x cs) : ∃ v2, cs = [.int .i64 x.kind, .string x.table, v2, .int .i64 x.schema.keys, .string x.column.name, .int .i64 x.column.kind, .bool x.column.none] ∧ kCol.R 28 w base ok v2 x.schema.cols := by
  obtain ⟨_, _, rfl, rfl, ⟨_, _, rfl, rfl, ⟨_, _, rfl, s2, s4⟩⟩⟩ := h
  obtain ⟨v2, rfl, g2⟩ := kSch_openM s2
  obtain rfl := kCol_openM s4
  exact ⟨v2, rfl, g2⟩
theorem kChg_mk (w : World) (x : Chg) {A2 : Option Addr} {c2 : Nat} (l2 : x.schema.cols.length ≤ c2) (g2 : kCol.C w A2 x.schema.cols.length x.schema.cols) : kChg.K w x [.int .i64 x.kind, .string x.table, .slice A2 x.schema.cols.length c2, .int .i64 x.schema.keys, .string x.column.name, .int .i64 x.column.kind, .bool x.column.none] := ⟨[.int .i64 x.kind], [.string x.table, .slice A2 x.schema.cols.length c2, .int .i64 x.schema.keys, .string x.column.name, .int .i64 x.column.kind, .bool x.column.none], rfl, rfl, ⟨[.string x.table], [.slice A2 x.schema.cols.length c2, .int .i64 x.schema.keys, .string x.column.name, .int .i64 x.column.kind, .bool x.column.none], rfl, rfl, ⟨[.slice A2 x.schema.cols.length c2, .int .i64 x.schema.keys], [.string x.column.name, .int .i64 x.column.kind, .bool x.column.none], rfl, (kSch_mk w (x.schema) l2 g2), (kCol_mk w (x.column))⟩⟩⟩
theorem kChg_mkM (w : World) (base : Nat) (ok : Nat → Prop) (x : Chg) {v2 : Value} (g2 : kCol.R 28 w base ok v2 x.schema.cols) : kChg.M w base ok x [.int .i64 x.kind, .string x.table, v2, .int .i64 x.schema.keys, .string x.column.name, .int .i64 x.column.kind, .bool x.column.none] := ⟨[.int .i64 x.kind], [.string x.table, v2, .int .i64 x.schema.keys, .string x.column.name, .int .i64 x.column.kind, .bool x.column.none], rfl, rfl, ⟨[.string x.table], [v2, .int .i64 x.schema.keys, .string x.column.name, .int .i64 x.column.kind, .bool x.column.none], rfl, rfl, ⟨[v2, .int .i64 x.schema.keys], [.string x.column.name, .int .i64 x.column.kind, .bool x.column.none], rfl, (kSch_mkM w base ok (x.schema) g2), (kCol_mkM w base ok (x.column))⟩⟩⟩
def rdChg (xs : List Chg) (i : Nat) : Chg := xs.getD i zChg
theorem at_Chg {w : World} {A : Option Addr} {n : Nat} {xs : List Chg} (h : Kd.C kChg w A n xs) (i : Nat) (h1 : i < n) : ∃ ad A2 c2, A = some ad ∧ w.cell? (ad.add (i * 7)) = some (.int .i64 (rdChg xs i).kind) ∧ w.cell? ⟨(ad.add (i * 7)).block, (ad.add (i * 7)).off + 1, none⟩ = some (.string (rdChg xs i).table) ∧ w.cell? ⟨(ad.add (i * 7)).block, (ad.add (i * 7)).off + 2, none⟩ = some (.slice A2 (rdChg xs i).schema.cols.length c2) ∧ w.cell? ⟨(ad.add (i * 7)).block, (ad.add (i * 7)).off + 3, none⟩ = some (.int .i64 (rdChg xs i).schema.keys) ∧ w.cell? ⟨(ad.add (i * 7)).block, (ad.add (i * 7)).off + 4, none⟩ = some (.string (rdChg xs i).column.name) ∧ w.cell? ⟨(ad.add (i * 7)).block, (ad.add (i * 7)).off + 5, none⟩ = some (.int .i64 (rdChg xs i).column.kind) ∧ w.cell? ⟨(ad.add (i * 7)).block, (ad.add (i * 7)).off + 6, none⟩ = some (.bool (rdChg xs i).column.none) ∧ (rdChg xs i).schema.cols.length ≤ c2 ∧ kCol.C w A2 (rdChg xs i).schema.cols.length (rdChg xs i).schema.cols := by
  obtain ⟨ad, c, e, _, hK, hc0⟩ := Kd.C_get h zChg (i : Int) (by omega) (by omega)
  rw [Int.toNat_natCast] at hK hc0
  have hc : ∀ j u, c[j]? = some u → w.cell? (ad.add (i * 7 + j)) = some u := hc0
  obtain ⟨A2, c2, rfl, l2, g2⟩ := kChg_open hK
  exact ⟨ad, A2, c2, e, hc 0 _ rfl, by rw [← add_field _ _ 1 (by omega)]; exact hc 1 _ rfl, by rw [← add_field _ _ 2 (by omega)]; exact hc 2 _ rfl, by rw [← add_field _ _ 3 (by omega)]; exact hc 3 _ rfl, by rw [← add_field _ _ 4 (by omega)]; exact hc 4 _ rfl, by rw [← add_field _ _ 5 (by omega)]; exact hc 5 _ rfl, by rw [← add_field _ _ 6 (by omega)]; exact hc 6 _ rfl, l2, g2⟩

/-! #### api.Event -/
structure Ev where
  kind : Int
  num : Int
  table : ByteArray
  before : List Val
  after : List Val
  change : Chg
def zEv : Ev := ⟨(0 : Int), (0 : Int), (⟨#[]⟩ : ByteArray), ([] : List Val), ([] : List Val), zChg⟩
def kEv : Kd Ev := Kd.iso (Kd.pair (Kd.int .i64) (Kd.pair (Kd.int .i64) (Kd.pair Kd.string (Kd.pair (Kd.slice 70 kVal) (Kd.pair (Kd.slice 70 kVal) kChg))))) (fun x : Ev => (x.kind, x.num, x.table, x.before, x.after, x.change))
theorem kEv_open {w : World} {x : Ev} {cs : List Value} (h : kEv.K w x cs) : ∃ A3 c3 A4 c4 A7 c7, cs = [.int .i64 x.kind, .int .i64 x.num, .string x.table, .slice A3 x.before.length c3, .slice A4 x.after.length c4, .int .i64 x.change.kind, .string x.change.table, .slice A7 x.change.schema.cols.length c7, .int .i64 x.change.schema.keys, .string x.change.column.name, .int .i64 x.change.column.kind, .bool x.change.column.none] ∧ x.before.length ≤ c3 ∧ kVal.C w A3 x.before.length x.before ∧ x.after.length ≤ c4 ∧ kVal.C w A4 x.after.length x.after ∧ x.change.schema.cols.length ≤ c7 ∧ kCol.C w A7 x.change.schema.cols.length x.change.schema.cols := by
  obtain ⟨_, _, rfl, rfl, ⟨_, _, rfl, rfl, ⟨_, _, rfl, rfl, ⟨_, _, rfl, ⟨A3, c3, rfl, l3, g3⟩, ⟨_, _, rfl, ⟨A4, c4, rfl, l4, g4⟩, s5⟩⟩⟩⟩⟩ := h
  obtain ⟨A7, c7, rfl, l7, g7⟩ := kChg_open s5
  exact ⟨A3, c3, A4, c4, A7, c7, rfl, l3, g3, l4, g4, l7, g7⟩
theorem kEv_openM {w : World} {base : Nat} {ok : Nat → Prop} {x : Ev} {cs : List Value} (h : kEv.M w base ok x cs) : ∃ v3 v4 v7, cs = [.int .i64 x.kind, .int .i64 x.num, .string x.table, v3, v4, .int .i64 x.change.kind, .string x.change.table, v7, .int .i64 x.change.schema.keys, .string x.change.column.name, .int .i64 x.change.column.kind, .bool x.change.column.none] ∧ kVal.R 70 w base ok v3 x.before ∧ kVal.R 70 w base ok v4 x.after ∧ kCol.R 28 w base ok v7 x.change.schema.cols := by
  obtain ⟨_, _, rfl, rfl, ⟨_, _, rfl, rfl, ⟨_, _, rfl, rfl, ⟨_, _, rfl, ⟨v3, rfl, g3⟩, ⟨_, _, rfl, ⟨v4, rfl, g4⟩, s5⟩⟩⟩⟩⟩ := h
  obtain ⟨v7, rfl, g7⟩ := kChg_openM s5
  exact ⟨v3, v4, v7, rfl, g3, g4, g7⟩
theorem kEv_mk (w : World) (x : Ev) {A3 : Option Addr} {c3 : Nat} (l3 : x.before.length ≤ c3) (g3 : kVal.C w A3 x.before.length x.before) {A4 : Option Addr} {c4 : Nat} (l4 : x.after.length ≤ c4) (g4 : kVal.C w A4 x.after.length x.after) {A7 : Option Addr} {c7 : Nat} (l7 : x.change.schema.cols.length ≤ c7) (g7 : kCol.C w A7 x.change.schema.cols.length x.change.schema.cols) : kEv.K w x [.int .i64 x.kind, .int .i64 x.num, .string x.table, .slice A3 x.before.length c3, .slice A4 x.after.length c4, .int .i64 x.change.kind, .string x.change.table, .slice A7 x.change.schema.cols.length c7, .int .i64 x.change.schema.keys, .string x.change.column.name, .int .i64 x.change.column.kind, .bool x.change.column.none] := ⟨[.int .i64 x.kind], [.int .i64 x.num, .string x.table, .slice A3 x.before.length c3, .slice A4 x.after.length c4, .int .i64 x.change.kind, .string x.change.table, .slice A7 x.change.schema.cols.length c7, .int .i64 x.change.schema.keys, .string x.change.column.name, .int .i64 x.change.column.kind, .bool x.change.column.none], rfl, rfl, ⟨[.int .i64 x.num], [.string x.table, .slice A3 x.before.length c3, .slice A4 x.after.length c4, .int .i64 x.change.kind, .string x.change.table, .slice A7 x.change.schema.cols.length c7, .int .i64 x.change.schema.keys, .string x.change.column.name, .int .i64 x.change.column.kind, .bool x.change.column.none], rfl, rfl, ⟨[.string x.table], [.slice A3 x.before.length c3, .slice A4 x.after.length c4, .int .i64 x.change.kind, .string x.change.table, .slice A7 x.change.schema.cols.length c7, .int .i64 x.change.schema.keys, .string x.change.column.name, .int .i64 x.change.column.kind, .bool x.change.column.none], rfl, rfl, ⟨[.slice A3 x.before.length c3], [.slice A4 x.after.length c4, .int .i64 x.change.kind, .string x.change.table, .slice A7 x.change.schema.cols.length c7, .int .i64 x.change.schema.keys, .string x.change.column.name, .int .i64 x.change.column.kind, .bool x.change.column.none], rfl, ⟨A3, c3, rfl, l3, g3⟩, ⟨[.slice A4 x.after.length c4], [.int .i64 x.change.kind, .string x.change.table, .slice A7 x.change.schema.cols.length c7, .int .i64 x.change.schema.keys, .string x.change.column.name, .int .i64 x.change.column.kind, .bool x.change.column.none], rfl, ⟨A4, c4, rfl, l4, g4⟩, (kChg_mk w (x.change) l7 g7)⟩⟩⟩⟩⟩
theorem kEv_mkM (w : World) (base : Nat) (ok : Nat → Prop) (x : Ev) {v3 : Value} (g3 : kVal.R 70 w base ok v3 x.before) {v4 : Value} (g4 : kVal.R 70 w base ok v4 x.after) {v7 : Value} (g7 : kCol.R 28 w base ok v7 x.change.schema.cols) : kEv.M w base ok x [.int .i64 x.kind, .int .i64 x.num, .string x.table, v3, v4, .int .i64 x.change.kind, .string x.change.table, v7, .int .i64 x.change.schema.keys, .string x.change.column.name, .int .i64 x.change.column.kind, .bool x.change.column.none] := ⟨[.int .i64 x.kind], [.int .i64 x.num, .string x.table, v3, v4, .int .i64 x.change.kind, .string x.change.table, v7, .int .i64 x.change.schema.keys, .string x.change.column.name, .int .i64 x.change.column.kind, .bool x.change.column.none], rfl, rfl, ⟨[.int .i64 x.num], [.string x.table, v3, v4, .int .i64 x.change.kind, .string x.change.table, v7, .int .i64 x.change.schema.keys, .string x.change.column.name, .int .i64 x.change.column.kind, .bool x.change.column.none], rfl, rfl, ⟨[.string x.table], [v3, v4, .int .i64 x.change.kind, .string x.change.table, v7, .int .i64 x.change.schema.keys, .string x.change.column.name, .int .i64 x.change.column.kind, .bool x.change.column.none], rfl, rfl, ⟨[v3], [v4, .int .i64 x.change.kind, .string x.change.table, v7, .int .i64 x.change.schema.keys, .string x.change.column.name, .int .i64 x.change.column.kind, .bool x.change.column.none], rfl, ⟨v3, rfl, g3⟩, ⟨[v4], [.int .i64 x.change.kind, .string x.change.table, v7, .int .i64 x.change.schema.keys, .string x.change.column.name, .int .i64 x.change.column.kind, .bool x.change.column.none], rfl, ⟨v4, rfl, g4⟩, (kChg_mkM w base ok (x.change) g7)⟩⟩⟩⟩⟩
def rdEv (xs : List Ev) (i : Nat) : Ev := xs.getD i zEv
theorem at_Ev {w : World} {A : Option Addr} {n : Nat} {xs : List Ev} (h : Kd.C kEv w A n xs) (i : Nat) (h1 : i < n) : ∃ ad A3 c3 A4 c4 A7 c7, A = some ad ∧ w.cell? (ad.add (i * 12)) = some (.int .i64 (rdEv xs i).kind) ∧ w.cell? ⟨(ad.add (i * 12)).block, (ad.add (i * 12)).off + 1, none⟩ = some (.int .i64 (rdEv xs i).num) ∧ w.cell? ⟨(ad.add (i * 12)).block, (ad.add (i * 12)).off + 2, none⟩ = some (.string (rdEv xs i).table) ∧ w.cell? ⟨(ad.add (i * 12)).block, (ad.add (i * 12)).off + 3, none⟩ = some (.slice A3 (rdEv xs i).before.length c3) ∧ w.cell? ⟨(ad.add (i * 12)).block, (ad.add (i * 12)).off + 4, none⟩ = some (.slice A4 (rdEv xs i).after.length c4) ∧ w.cell? ⟨(ad.add (i * 12)).block, (ad.add (i * 12)).off + 5, none⟩ = some (.int .i64 (rdEv xs i).change.kind) ∧ w.cell? ⟨(ad.add (i * 12)).block, (ad.add (i * 12)).off + 6, none⟩ = some (.string (rdEv xs i).change.table) ∧ w.cell? ⟨(ad.add (i * 12)).block, (ad.add (i * 12)).off + 7, none⟩ = some (.slice A7 (rdEv xs i).change.schema.cols.length c7) ∧ w.cell? ⟨(ad.add (i * 12)).block, (ad.add (i * 12)).off + 8, none⟩ = some (.int .i64 (rdEv xs i).change.schema.keys) ∧ w.cell? ⟨(ad.add (i * 12)).block, (ad.add (i * 12)).off + 9, none⟩ = some (.string (rdEv xs i).change.column.name) ∧ w.cell? ⟨(ad.add (i * 12)).block, (ad.add (i * 12)).off + 10, none⟩ = some (.int .i64 (rdEv xs i).change.column.kind) ∧ w.cell? ⟨(ad.add (i * 12)).block, (ad.add (i * 12)).off + 11, none⟩ = some (.bool (rdEv xs i).change.column.none) ∧ (rdEv xs i).before.length ≤ c3 ∧ kVal.C w A3 (rdEv xs i).before.length (rdEv xs i).before ∧ (rdEv xs i).after.length ≤ c4 ∧ kVal.C w A4 (rdEv xs i).after.length (rdEv xs i).after ∧ (rdEv xs i).change.schema.cols.length ≤ c7 ∧ kCol.C w A7 (rdEv xs i).change.schema.cols.length (rdEv xs i).change.schema.cols := by
  obtain ⟨ad, c, e, _, hK, hc0⟩ := Kd.C_get h zEv (i : Int) (by omega) (by omega)
  rw [Int.toNat_natCast] at hK hc0
  have hc : ∀ j u, c[j]? = some u → w.cell? (ad.add (i * 12 + j)) = some u := hc0
  obtain ⟨A3, c3, A4, c4, A7, c7, rfl, l3, g3, l4, g4, l7, g7⟩ := kEv_open hK
  exact ⟨ad, A3, c3, A4, c4, A7, c7, e, hc 0 _ rfl, by rw [← add_field _ _ 1 (by omega)]; exact hc 1 _ rfl, by rw [← add_field _ _ 2 (by omega)]; exact hc 2 _ rfl, by rw [← add_field _ _ 3 (by omega)]; exact hc 3 _ rfl, by rw [← add_field _ _ 4 (by omega)]; exact hc 4 _ rfl, by rw [← add_field _ _ 5 (by omega)]; exact hc 5 _ rfl, by rw [← add_field _ _ 6 (by omega)]; exact hc 6 _ rfl, by rw [← add_field _ _ 7 (by omega)]; exact hc 7 _ rfl, by rw [← add_field _ _ 8 (by omega)]; exact hc 8 _ rfl, by rw [← add_field _ _ 9 (by omega)]; exact hc 9 _ rfl, by rw [← add_field _ _ 10 (by omega)]; exact hc 10 _ rfl, by rw [← add_field _ _ 11 (by omega)]; exact hc 11 _ rfl, l3, g3, l4, g4, l7, g7⟩
end Go.Proofs.YtapcoekakbbmcaaGreatDoor
