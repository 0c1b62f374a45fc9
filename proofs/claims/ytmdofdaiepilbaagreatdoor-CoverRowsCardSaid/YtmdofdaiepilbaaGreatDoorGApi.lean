/- The api's structs as Lean structures, and what their cells say. Written by a program (gen_kinds.py of this claim's author); lemmas alone. -/
import Derived.Test.YtmdofdaiepilbaaGreatDoorWWords
import Derived.Test.YtmdofdaiepilbaaGreatDoorProg
import Derived.WalkKit
import Derived.WalkSpells
namespace Go.Proofs.YtmdofdaiepilbaaGreatDoor
open Go.RowKit Go.Proofs.YtmdofdaiepilbaaGreatDoorW.PrintWords
set_option linter.unusedVariables false
set_option linter.unusedSimpArgs false
/-! #### api.Value -/
structure Val where
  kind : Int
  num : Int
  text : ByteArray
def zVal : Val := ⟨(0 : Int), (0 : Int), (⟨#[]⟩ : ByteArray)⟩
def kVal : Kd Val := Kd.iso (Kd.pair (Kd.int .i64) (Kd.pair (Kd.int .i64) Kd.string)) (fun x : Val => (x.kind, x.num, x.text))
theorem kVal_open {w : World} {x : Val} {cs : List Value} (h : kVal.K w x cs) : cs = [.int .i64 x.kind, .int .i64 x.num, .string x.text] := by
  obtain ⟨_, _, rfl, rfl, ⟨_, _, rfl, rfl, rfl⟩⟩ := h
  exact rfl
theorem kVal_openM {w : World} {base : Nat} {ok : Nat → Prop} {x : Val} {cs : List Value} (h : kVal.M w base ok x cs) : cs = [.int .i64 x.kind, .int .i64 x.num, .string x.text] := by
  obtain ⟨_, _, rfl, rfl, ⟨_, _, rfl, rfl, rfl⟩⟩ := h
  exact rfl
theorem kVal_mk (w : World) (x : Val)  : kVal.K w x [.int .i64 x.kind, .int .i64 x.num, .string x.text] := ⟨[.int .i64 x.kind], [.int .i64 x.num, .string x.text], rfl, rfl, ⟨[.int .i64 x.num], [.string x.text], rfl, rfl, rfl⟩⟩
theorem kVal_mkM (w : World) (base : Nat) (ok : Nat → Prop) (x : Val)  : kVal.M w base ok x [.int .i64 x.kind, .int .i64 x.num, .string x.text] := ⟨[.int .i64 x.kind], [.int .i64 x.num, .string x.text], rfl, rfl, ⟨[.int .i64 x.num], [.string x.text], rfl, rfl, rfl⟩⟩
def rdVal (xs : List Val) (i : Nat) : Val := xs.getD i zVal
theorem at_Val {w : World} {A : Option Addr} {n : Nat} {xs : List Val} (h : Kd.C kVal w A n xs) (i : Nat) (h1 : i < n) : ∃ ad, A = some ad ∧ w.cell? (ad.add (i * 3)) = some (.int .i64 (rdVal xs i).kind) ∧ w.cell? ⟨(ad.add (i * 3)).block, (ad.add (i * 3)).off + 1, none⟩ = some (.int .i64 (rdVal xs i).num) ∧ w.cell? ⟨(ad.add (i * 3)).block, (ad.add (i * 3)).off + 2, none⟩ = some (.string (rdVal xs i).text) := by
  obtain ⟨ad, c, e, _, hK, hc0⟩ := Kd.C_get h zVal (i : Int) (by omega) (by omega)
  rw [Int.toNat_natCast] at hK hc0
  have hc : ∀ j u, c[j]? = some u → w.cell? (ad.add (i * 3 + j)) = some u := hc0
  obtain rfl := kVal_open hK
  exact ⟨ad, e, hc 0 _ rfl, by rw [← add_field _ _ 1 (by omega)]; exact hc 1 _ rfl, by rw [← add_field _ _ 2 (by omega)]; exact hc 2 _ rfl⟩

/-! #### api.Column -/
structure Col where
  name : ByteArray
  kind : Int
  none : Bool
def zCol : Col := ⟨(⟨#[]⟩ : ByteArray), (0 : Int), false⟩
def kCol : Kd Col := Kd.iso (Kd.pair Kd.string (Kd.pair (Kd.int .i64) Kd.bool)) (fun x : Col => (x.name, x.kind, x.none))
theorem kCol_open {w : World} {x : Col} {cs : List Value} (h : kCol.K w x cs) : cs = [.string x.name, .int .i64 x.kind, .bool x.none] := by
  obtain ⟨_, _, rfl, rfl, ⟨_, _, rfl, rfl, rfl⟩⟩ := h
  exact rfl
theorem kCol_openM {w : World} {base : Nat} {ok : Nat → Prop} {x : Col} {cs : List Value} (h : kCol.M w base ok x cs) : cs = [.string x.name, .int .i64 x.kind, .bool x.none] := by
  obtain ⟨_, _, rfl, rfl, ⟨_, _, rfl, rfl, rfl⟩⟩ := h
  exact rfl
theorem kCol_mk (w : World) (x : Col)  : kCol.K w x [.string x.name, .int .i64 x.kind, .bool x.none] := ⟨[.string x.name], [.int .i64 x.kind, .bool x.none], rfl, rfl, ⟨[.int .i64 x.kind], [.bool x.none], rfl, rfl, rfl⟩⟩
theorem kCol_mkM (w : World) (base : Nat) (ok : Nat → Prop) (x : Col)  : kCol.M w base ok x [.string x.name, .int .i64 x.kind, .bool x.none] := ⟨[.string x.name], [.int .i64 x.kind, .bool x.none], rfl, rfl, ⟨[.int .i64 x.kind], [.bool x.none], rfl, rfl, rfl⟩⟩
def rdCol (xs : List Col) (i : Nat) : Col := xs.getD i zCol
theorem at_Col {w : World} {A : Option Addr} {n : Nat} {xs : List Col} (h : Kd.C kCol w A n xs) (i : Nat) (h1 : i < n) : ∃ ad, A = some ad ∧ w.cell? (ad.add (i * 3)) = some (.string (rdCol xs i).name) ∧ w.cell? ⟨(ad.add (i * 3)).block, (ad.add (i * 3)).off + 1, none⟩ = some (.int .i64 (rdCol xs i).kind) ∧ w.cell? ⟨(ad.add (i * 3)).block, (ad.add (i * 3)).off + 2, none⟩ = some (.bool (rdCol xs i).none) := by
  obtain ⟨ad, c, e, _, hK, hc0⟩ := Kd.C_get h zCol (i : Int) (by omega) (by omega)
  rw [Int.toNat_natCast] at hK hc0
  have hc : ∀ j u, c[j]? = some u → w.cell? (ad.add (i * 3 + j)) = some u := hc0
  obtain rfl := kCol_open hK
  exact ⟨ad, e, hc 0 _ rfl, by rw [← add_field _ _ 1 (by omega)]; exact hc 1 _ rfl, by rw [← add_field _ _ 2 (by omega)]; exact hc 2 _ rfl⟩

/-! #### api.Schema -/
structure Sch where
  cols : List Col
  keys : Int
def zSch : Sch := ⟨([] : List Col), (0 : Int)⟩
def kSch : Kd Sch := Kd.iso (Kd.pair (Kd.slice 51 kCol) (Kd.int .i64)) (fun x : Sch => (x.cols, x.keys))
theorem kSch_open {w : World} {x : Sch} {cs : List Value} (h : kSch.K w x cs) : ∃ A0 c0, cs = [.slice A0 x.cols.length c0, .int .i64 x.keys] ∧ x.cols.length ≤ c0 ∧ kCol.C w A0 x.cols.length x.cols := by
  obtain ⟨_, _, rfl, ⟨A0, c0, rfl, l0, g0⟩, rfl⟩ := h
  exact ⟨A0, c0, rfl, l0, g0⟩
theorem kSch_openM {w : World} {base : Nat} {ok : Nat → Prop} {x : Sch} {cs : List Value} (h : kSch.M w base ok x cs) : ∃ v0, cs = [v0, .int .i64 x.keys] ∧ kCol.R 51 w base ok v0 x.cols := by
  obtain ⟨_, _, rfl, ⟨v0, rfl, g0⟩, rfl⟩ := h
  exact ⟨v0, rfl, g0⟩
theorem kSch_mk (w : World) (x : Sch) {A0 : Option Addr} {c0 : Nat} (l0 : x.cols.length ≤ c0) (g0 : kCol.C w A0 x.cols.length x.cols) : kSch.K w x [.slice A0 x.cols.length c0, .int .i64 x.keys] := ⟨[.slice A0 x.cols.length c0], [.int .i64 x.keys], rfl, ⟨A0, c0, rfl, l0, g0⟩, rfl⟩
theorem kSch_mkM (w : World) (base : Nat) (ok : Nat → Prop) (x : Sch) {v0 : Value} (g0 : kCol.R 51 w base ok v0 x.cols) : kSch.M w base ok x [v0, .int .i64 x.keys] := ⟨[v0], [.int .i64 x.keys], rfl, ⟨v0, rfl, g0⟩, rfl⟩
def rdSch (xs : List Sch) (i : Nat) : Sch := xs.getD i zSch
theorem at_Sch {w : World} {A : Option Addr} {n : Nat} {xs : List Sch} (h : Kd.C kSch w A n xs) (i : Nat) (h1 : i < n) : ∃ ad A0 c0, A = some ad ∧ w.cell? (ad.add (i * 2)) = some (.slice A0 (rdSch xs i).cols.length c0) ∧ w.cell? ⟨(ad.add (i * 2)).block, (ad.add (i * 2)).off + 1, none⟩ = some (.int .i64 (rdSch xs i).keys) ∧ (rdSch xs i).cols.length ≤ c0 ∧ kCol.C w A0 (rdSch xs i).cols.length (rdSch xs i).cols := by
  obtain ⟨ad, c, e, _, hK, hc0⟩ := Kd.C_get h zSch (i : Int) (by omega) (by omega)
  rw [Int.toNat_natCast] at hK hc0
  have hc : ∀ j u, c[j]? = some u → w.cell? (ad.add (i * 2 + j)) = some u := hc0
  obtain ⟨A0, c0, rfl, l0, g0⟩ := kSch_open hK
  exact ⟨ad, A0, c0, e, hc 0 _ rfl, by rw [← add_field _ _ 1 (by omega)]; exact hc 1 _ rfl, l0, g0⟩

/-! #### api.Change -/
structure Chg where
  kind : Int
  table : ByteArray
  schema : Sch
  column : Col
def zChg : Chg := ⟨(0 : Int), (⟨#[]⟩ : ByteArray), zSch, zCol⟩
def kChg : Kd Chg := Kd.iso (Kd.pair (Kd.int .i64) (Kd.pair Kd.string (Kd.pair kSch kCol))) (fun x : Chg => (x.kind, x.table, x.schema, x.column))
theorem kChg_open {w : World} {x : Chg} {cs : List Value} (h : kChg.K w x cs) : ∃ A2 c2, cs = [.int .i64 x.kind, .string x.table, .slice A2 x.schema.cols.length c2, .int .i64 x.schema.keys, .string x.column.name, .int .i64 x.column.kind, .bool x.column.none] ∧ x.schema.cols.length ≤ c2 ∧ kCol.C w A2 x.schema.cols.length x.schema.cols := by
  obtain ⟨_, _, rfl, rfl, ⟨_, _, rfl, rfl, ⟨_, _, rfl, s2, s4⟩⟩⟩ := h
  obtain ⟨A2, c2, rfl, l2, g2⟩ := kSch_open s2
  obtain rfl := kCol_open s4
  exact ⟨A2, c2, rfl, l2, g2⟩
theorem kChg_openM {w : World} {base : Nat} {ok : Nat → Prop} {x : Chg} {cs : List Value} (h : kChg.M w base ok x cs) : ∃ v2, cs = [.int .i64 x.kind, .string x.table, v2, .int .i64 x.schema.keys, .string x.column.name, .int .i64 x.column.kind, .bool x.column.none] ∧ kCol.R 51 w base ok v2 x.schema.cols := by
  obtain ⟨_, _, rfl, rfl, ⟨_, _, rfl, rfl, ⟨_, _, rfl, s2, s4⟩⟩⟩ := h
  obtain ⟨v2, rfl, g2⟩ := kSch_openM s2
  obtain rfl := kCol_openM s4
  exact ⟨v2, rfl, g2⟩
theorem kChg_mk (w : World) (x : Chg) {A2 : Option Addr} {c2 : Nat} (l2 : x.schema.cols.length ≤ c2) (g2 : kCol.C w A2 x.schema.cols.length x.schema.cols) : kChg.K w x [.int .i64 x.kind, .string x.table, .slice A2 x.schema.cols.length c2, .int .i64 x.schema.keys, .string x.column.name, .int .i64 x.column.kind, .bool x.column.none] := ⟨[.int .i64 x.kind], [.string x.table, .slice A2 x.schema.cols.length c2, .int .i64 x.schema.keys, .string x.column.name, .int .i64 x.column.kind, .bool x.column.none], rfl, rfl, ⟨[.string x.table], [.slice A2 x.schema.cols.length c2, .int .i64 x.schema.keys, .string x.column.name, .int .i64 x.column.kind, .bool x.column.none], rfl, rfl, ⟨[.slice A2 x.schema.cols.length c2, .int .i64 x.schema.keys], [.string x.column.name, .int .i64 x.column.kind, .bool x.column.none], rfl, (kSch_mk w (x.schema) l2 g2), (kCol_mk w (x.column))⟩⟩⟩
theorem kChg_mkM (w : World) (base : Nat) (ok : Nat → Prop) (x : Chg) {v2 : Value} (g2 : kCol.R 51 w base ok v2 x.schema.cols) : kChg.M w base ok x [.int .i64 x.kind, .string x.table, v2, .int .i64 x.schema.keys, .string x.column.name, .int .i64 x.column.kind, .bool x.column.none] := ⟨[.int .i64 x.kind], [.string x.table, v2, .int .i64 x.schema.keys, .string x.column.name, .int .i64 x.column.kind, .bool x.column.none], rfl, rfl, ⟨[.string x.table], [v2, .int .i64 x.schema.keys, .string x.column.name, .int .i64 x.column.kind, .bool x.column.none], rfl, rfl, ⟨[v2, .int .i64 x.schema.keys], [.string x.column.name, .int .i64 x.column.kind, .bool x.column.none], rfl, (kSch_mkM w base ok (x.schema) g2), (kCol_mkM w base ok (x.column))⟩⟩⟩
def rdChg (xs : List Chg) (i : Nat) : Chg := xs.getD i zChg
theorem at_Chg {w : World} {A : Option Addr} {n : Nat} {xs : List Chg} (h : Kd.C kChg w A n xs) (i : Nat) (h1 : i < n) : ∃ ad A2 c2, A = some ad ∧ w.cell? (ad.add (i * 7)) = some (.int .i64 (rdChg xs i).kind) ∧ w.cell? ⟨(ad.add (i * 7)).block, (ad.add (i * 7)).off + 1, none⟩ = some (.string (rdChg xs i).table) ∧ w.cell? ⟨(ad.add (i * 7)).block, (ad.add (i * 7)).off + 2, none⟩ = some (.slice A2 (rdChg xs i).schema.cols.length c2) ∧ w.cell? ⟨(ad.add (i * 7)).block, (ad.add (i * 7)).off + 3, none⟩ = some (.int .i64 (rdChg xs i).schema.keys) ∧ w.cell? ⟨(ad.add (i * 7)).block, (ad.add (i * 7)).off + 4, none⟩ = some (.string (rdChg xs i).column.name) ∧ w.cell? ⟨(ad.add (i * 7)).block, (ad.add (i * 7)).off + 5, none⟩ = some (.int .i64 (rdChg xs i).column.kind) ∧ w.cell? ⟨(ad.add (i * 7)).block, (ad.add (i * 7)).off + 6, none⟩ = some (.bool (rdChg xs i).column.none) ∧ (rdChg xs i).schema.cols.length ≤ c2 ∧ kCol.C w A2 (rdChg xs i).schema.cols.length (rdChg xs i).schema.cols := by
  obtain ⟨ad, c, e, _, hK, hc0⟩ := Kd.C_get h zChg (i : Int) (by omega) (by omega)
  rw [Int.toNat_natCast] at hK hc0
  have hc : ∀ j u, c[j]? = some u → w.cell? (ad.add (i * 7 + j)) = some u := hc0
  obtain ⟨A2, c2, rfl, l2, g2⟩ := kChg_open hK
  exact ⟨ad, A2, c2, e, hc 0 _ rfl, by rw [← add_field _ _ 1 (by omega)]; exact hc 1 _ rfl, by rw [← add_field _ _ 2 (by omega)]; exact hc 2 _ rfl, by rw [← add_field _ _ 3 (by omega)]; exact hc 3 _ rfl, by rw [← add_field _ _ 4 (by omega)]; exact hc 4 _ rfl, by rw [← add_field _ _ 5 (by omega)]; exact hc 5 _ rfl, by rw [← add_field _ _ 6 (by omega)]; exact hc 6 _ rfl, l2, g2⟩

/-! #### api.Event -/
structure Ev where
  kind : Int
  num : Int
  table : ByteArray
  before : List Val
  after : List Val
  change : Chg
def zEv : Ev := ⟨(0 : Int), (0 : Int), (⟨#[]⟩ : ByteArray), ([] : List Val), ([] : List Val), zChg⟩
def kEv : Kd Ev := Kd.iso (Kd.pair (Kd.int .i64) (Kd.pair (Kd.int .i64) (Kd.pair Kd.string (Kd.pair (Kd.slice 75 kVal) (Kd.pair (Kd.slice 75 kVal) kChg))))) (fun x : Ev => (x.kind, x.num, x.table, x.before, x.after, x.change))
theorem kEv_open {w : World} {x : Ev} {cs : List Value} (h : kEv.K w x cs) : ∃ A3 c3 A4 c4 A7 c7, cs = [.int .i64 x.kind, .int .i64 x.num, .string x.table, .slice A3 x.before.length c3, .slice A4 x.after.length c4, .int .i64 x.change.kind, .string x.change.table, .slice A7 x.change.schema.cols.length c7, .int .i64 x.change.schema.keys, .string x.change.column.name, .int .i64 x.change.column.kind, .bool x.change.column.none] ∧ x.before.length ≤ c3 ∧ kVal.C w A3 x.before.length x.before ∧ x.after.length ≤ c4 ∧ kVal.C w A4 x.after.length x.after ∧ x.change.schema.cols.length ≤ c7 ∧ kCol.C w A7 x.change.schema.cols.length x.change.schema.cols := by
  obtain ⟨_, _, rfl, rfl, ⟨_, _, rfl, rfl, ⟨_, _, rfl, rfl, ⟨_, _, rfl, ⟨A3, c3, rfl, l3, g3⟩, ⟨_, _, rfl, ⟨A4, c4, rfl, l4, g4⟩, s5⟩⟩⟩⟩⟩ := h
  obtain ⟨A7, c7, rfl, l7, g7⟩ := kChg_open s5
  exact ⟨A3, c3, A4, c4, A7, c7, rfl, l3, g3, l4, g4, l7, g7⟩
theorem kEv_openM {w : World} {base : Nat} {ok : Nat → Prop} {x : Ev} {cs : List Value} (h : kEv.M w base ok x cs) : ∃ v3 v4 v7, cs = [.int .i64 x.kind, .int .i64 x.num, .string x.table, v3, v4, .int .i64 x.change.kind, .string x.change.table, v7, .int .i64 x.change.schema.keys, .string x.change.column.name, .int .i64 x.change.column.kind, .bool x.change.column.none] ∧ kVal.R 75 w base ok v3 x.before ∧ kVal.R 75 w base ok v4 x.after ∧ kCol.R 51 w base ok v7 x.change.schema.cols := by
  obtain ⟨_, _, rfl, rfl, ⟨_, _, rfl, rfl, ⟨_, _, rfl, rfl, ⟨_, _, rfl, ⟨v3, rfl, g3⟩, ⟨_, _, rfl, ⟨v4, rfl, g4⟩, s5⟩⟩⟩⟩⟩ := h
  obtain ⟨v7, rfl, g7⟩ := kChg_openM s5
  exact ⟨v3, v4, v7, rfl, g3, g4, g7⟩
theorem kEv_mk (w : World) (x : Ev) {A3 : Option Addr} {c3 : Nat} (l3 : x.before.length ≤ c3) (g3 : kVal.C w A3 x.before.length x.before) {A4 : Option Addr} {c4 : Nat} (l4 : x.after.length ≤ c4) (g4 : kVal.C w A4 x.after.length x.after) {A7 : Option Addr} {c7 : Nat} (l7 : x.change.schema.cols.length ≤ c7) (g7 : kCol.C w A7 x.change.schema.cols.length x.change.schema.cols) : kEv.K w x [.int .i64 x.kind, .int .i64 x.num, .string x.table, .slice A3 x.before.length c3, .slice A4 x.after.length c4, .int .i64 x.change.kind, .string x.change.table, .slice A7 x.change.schema.cols.length c7, .int .i64 x.change.schema.keys, .string x.change.column.name, .int .i64 x.change.column.kind, .bool x.change.column.none] := ⟨[.int .i64 x.kind], [.int .i64 x.num, .string x.table, .slice A3 x.before.length c3, .slice A4 x.after.length c4, .int .i64 x.change.kind, .string x.change.table, .slice A7 x.change.schema.cols.length c7, .int .i64 x.change.schema.keys, .string x.change.column.name, .int .i64 x.change.column.kind, .bool x.change.column.none], rfl, rfl, ⟨[.int .i64 x.num], [.string x.table, .slice A3 x.before.length c3, .slice A4 x.after.length c4, .int .i64 x.change.kind, .string x.change.table, .slice A7 x.change.schema.cols.length c7, .int .i64 x.change.schema.keys, .string x.change.column.name, .int .i64 x.change.column.kind, .bool x.change.column.none], rfl, rfl, ⟨[.string x.table], [.slice A3 x.before.length c3, .slice A4 x.after.length c4, .int .i64 x.change.kind, .string x.change.table, .slice A7 x.change.schema.cols.length c7, .int .i64 x.change.schema.keys, .string x.change.column.name, .int .i64 x.change.column.kind, .bool x.change.column.none], rfl, rfl, ⟨[.slice A3 x.before.length c3], [.slice A4 x.after.length c4, .int .i64 x.change.kind, .string x.change.table, .slice A7 x.change.schema.cols.length c7, .int .i64 x.change.schema.keys, .string x.change.column.name, .int .i64 x.change.column.kind, .bool x.change.column.none], rfl, ⟨A3, c3, rfl, l3, g3⟩, ⟨[.slice A4 x.after.length c4], [.int .i64 x.change.kind, .string x.change.table, .slice A7 x.change.schema.cols.length c7, .int .i64 x.change.schema.keys, .string x.change.column.name, .int .i64 x.change.column.kind, .bool x.change.column.none], rfl, ⟨A4, c4, rfl, l4, g4⟩, (kChg_mk w (x.change) l7 g7)⟩⟩⟩⟩⟩
theorem kEv_mkM (w : World) (base : Nat) (ok : Nat → Prop) (x : Ev) {v3 : Value} (g3 : kVal.R 75 w base ok v3 x.before) {v4 : Value} (g4 : kVal.R 75 w base ok v4 x.after) {v7 : Value} (g7 : kCol.R 51 w base ok v7 x.change.schema.cols) : kEv.M w base ok x [.int .i64 x.kind, .int .i64 x.num, .string x.table, v3, v4, .int .i64 x.change.kind, .string x.change.table, v7, .int .i64 x.change.schema.keys, .string x.change.column.name, .int .i64 x.change.column.kind, .bool x.change.column.none] := ⟨[.int .i64 x.kind], [.int .i64 x.num, .string x.table, v3, v4, .int .i64 x.change.kind, .string x.change.table, v7, .int .i64 x.change.schema.keys, .string x.change.column.name, .int .i64 x.change.column.kind, .bool x.change.column.none], rfl, rfl, ⟨[.int .i64 x.num], [.string x.table, v3, v4, .int .i64 x.change.kind, .string x.change.table, v7, .int .i64 x.change.schema.keys, .string x.change.column.name, .int .i64 x.change.column.kind, .bool x.change.column.none], rfl, rfl, ⟨[.string x.table], [v3, v4, .int .i64 x.change.kind, .string x.change.table, v7, .int .i64 x.change.schema.keys, .string x.change.column.name, .int .i64 x.change.column.kind, .bool x.change.column.none], rfl, rfl, ⟨[v3], [v4, .int .i64 x.change.kind, .string x.change.table, v7, .int .i64 x.change.schema.keys, .string x.change.column.name, .int .i64 x.change.column.kind, .bool x.change.column.none], rfl, ⟨v3, rfl, g3⟩, ⟨[v4], [.int .i64 x.change.kind, .string x.change.table, v7, .int .i64 x.change.schema.keys, .string x.change.column.name, .int .i64 x.change.column.kind, .bool x.change.column.none], rfl, ⟨v4, rfl, g4⟩, (kChg_mkM w base ok (x.change) g7)⟩⟩⟩⟩⟩
def rdEv (xs : List Ev) (i : Nat) : Ev := xs.getD i zEv
theorem at_Ev {w : World} {A : Option Addr} {n : Nat} {xs : List Ev} (h : Kd.C kEv w A n xs) (i : Nat) (h1 : i < n) : ∃ ad A3 c3 A4 c4 A7 c7, A = some ad ∧ w.cell? (ad.add (i * 12)) = some (.int .i64 (rdEv xs i).kind) ∧ w.cell? ⟨(ad.add (i * 12)).block, (ad.add (i * 12)).off + 1, none⟩ = some (.int .i64 (rdEv xs i).num) ∧ w.cell? ⟨(ad.add (i * 12)).block, (ad.add (i * 12)).off + 2, none⟩ = some (.string (rdEv xs i).table) ∧ w.cell? ⟨(ad.add (i * 12)).block, (ad.add (i * 12)).off + 3, none⟩ = some (.slice A3 (rdEv xs i).before.length c3) ∧ w.cell? ⟨(ad.add (i * 12)).block, (ad.add (i * 12)).off + 4, none⟩ = some (.slice A4 (rdEv xs i).after.length c4) ∧ w.cell? ⟨(ad.add (i * 12)).block, (ad.add (i * 12)).off + 5, none⟩ = some (.int .i64 (rdEv xs i).change.kind) ∧ w.cell? ⟨(ad.add (i * 12)).block, (ad.add (i * 12)).off + 6, none⟩ = some (.string (rdEv xs i).change.table) ∧ w.cell? ⟨(ad.add (i * 12)).block, (ad.add (i * 12)).off + 7, none⟩ = some (.slice A7 (rdEv xs i).change.schema.cols.length c7) ∧ w.cell? ⟨(ad.add (i * 12)).block, (ad.add (i * 12)).off + 8, none⟩ = some (.int .i64 (rdEv xs i).change.schema.keys) ∧ w.cell? ⟨(ad.add (i * 12)).block, (ad.add (i * 12)).off + 9, none⟩ = some (.string (rdEv xs i).change.column.name) ∧ w.cell? ⟨(ad.add (i * 12)).block, (ad.add (i * 12)).off + 10, none⟩ = some (.int .i64 (rdEv xs i).change.column.kind) ∧ w.cell? ⟨(ad.add (i * 12)).block, (ad.add (i * 12)).off + 11, none⟩ = some (.bool (rdEv xs i).change.column.none) ∧ (rdEv xs i).before.length ≤ c3 ∧ kVal.C w A3 (rdEv xs i).before.length (rdEv xs i).before ∧ (rdEv xs i).after.length ≤ c4 ∧ kVal.C w A4 (rdEv xs i).after.length (rdEv xs i).after ∧ (rdEv xs i).change.schema.cols.length ≤ c7 ∧ kCol.C w A7 (rdEv xs i).change.schema.cols.length (rdEv xs i).change.schema.cols := by
  obtain ⟨ad, c, e, _, hK, hc0⟩ := Kd.C_get h zEv (i : Int) (by omega) (by omega)
  rw [Int.toNat_natCast] at hK hc0
  have hc : ∀ j u, c[j]? = some u → w.cell? (ad.add (i * 12 + j)) = some u := hc0
  obtain ⟨A3, c3, A4, c4, A7, c7, rfl, l3, g3, l4, g4, l7, g7⟩ := kEv_open hK
  exact ⟨ad, A3, c3, A4, c4, A7, c7, e, hc 0 _ rfl, by rw [← add_field _ _ 1 (by omega)]; exact hc 1 _ rfl, by rw [← add_field _ _ 2 (by omega)]; exact hc 2 _ rfl, by rw [← add_field _ _ 3 (by omega)]; exact hc 3 _ rfl, by rw [← add_field _ _ 4 (by omega)]; exact hc 4 _ rfl, by rw [← add_field _ _ 5 (by omega)]; exact hc 5 _ rfl, by rw [← add_field _ _ 6 (by omega)]; exact hc 6 _ rfl, by rw [← add_field _ _ 7 (by omega)]; exact hc 7 _ rfl, by rw [← add_field _ _ 8 (by omega)]; exact hc 8 _ rfl, by rw [← add_field _ _ 9 (by omega)]; exact hc 9 _ rfl, by rw [← add_field _ _ 10 (by omega)]; exact hc 10 _ rfl, by rw [← add_field _ _ 11 (by omega)]; exact hc 11 _ rfl, l3, g3, l4, g4, l7, g7⟩
end Go.Proofs.YtmdofdaiepilbaaGreatDoor

/- slices.Clone at rows of values and of columns: a row of the call's own with the same. Conditions: the slice reads so; its bytes are below 2^47. -/
namespace Go.Proofs.YtmdofdaiepilbaaGreatDoor
open Go.RowKit Go.Proofs.YtmdofdaiepilbaaGreatDoorW.PrintWords
set_option linter.unusedVariables false
set_option linter.unusedSimpArgs false

/-- a fresh row with l is answered -/
def FreshOf {α : Type} (d : Kd α) (e : Nat) (w : World) (l : List α) (x : Ending) (w' : World) : Prop := ∃ v, x = .returned v ∧ d.R e w' w.heap.size (fun _ => True) v l ∧ Below w.heap.size w w'
theorem infoVal : (Tryz.prog.info? 75).map (fun i => (i.zero, i.size, i.bytes)) = some (some (.agg #[.int .i64 0, .int .i64 0, .string ⟨#[]⟩]), kVal.sz, 32) := by kernel_rfl
theorem infoCol : (Tryz.prog.info? 51).map (fun i => (i.zero, i.size, i.bytes)) = some (some (.agg #[.string ⟨#[]⟩, .int .i64 0, .bool false]), kCol.sz, 32) := by kernel_rfl
theorem C_nil_of {α : Type} {d : Kd α} {w : World} {n : Nat} {l : List α} (h : d.C w none n l) : n = 0 ∧ l = [] := by
  have h0 : n = 0 := by
    rcases Nat.eq_zero_or_pos n with h1 | h1
    · exact h1
    · obtain ⟨ad, h2, _⟩ := h.2.2 h1
      cases h2
  exact ⟨h0, List.eq_nil_of_length_eq_zero (by rw [h.1, h0])⟩
theorem made0 {α : Type} (d : Kd α) (e : Nat) (w : World) : d.R e (w.alloc (.cells #[] e)) w.heap.size (fun _ => True) (.slice (some ⟨w.heap.size, 0, none⟩) 0 0) [] :=
  ⟨fun _ _ => trivial, [], World.ownsRow_made w #[] 0 (Nat.le_refl _) (by decide) (by simp), ⟨by simp, fun j p h => by simp at h⟩⟩

set_option maxHeartbeats 1000000 in
theorem cloneVal_calls (A : Option Addr) (n c : Nat) (l : List Val) (w : World) (hr : kVal.C w A n l) (hn : n * 32 ≤ 140737488355328) :
    Calls Tryz.prog 42 #[.slice A n c] w (FreshOf kVal 75 w l) := by
  have HR := Aside0.mk hr
  have hq : ∀ W : World, (binOp .eql 49 (.slice A n c) (.slice none 0 0)).run Tryz.prog W = .ok (.bool A.isNone) W := fun W => Lib.run_eql_slice_nil W 49 75 A n c 0 0 Tryz.underlying49
  cases A with
  | none =>
    obtain ⟨rfl, rfl⟩ := C_nil_of hr
    clear hr
    go_enter Tryz.func42, Tryz.ntmps42
    go_wp2
    go_ret
    exact ⟨_, rfl, Kd.R_nil _ _ _ _ _, Below.refl _ _⟩
  | some ad =>
    clear hr
    go_enter Tryz.func42, Tryz.ntmps42
    go_wp2_with (refine Kd.R_append_rows kVal (w0 := w) w.heap.size rfl (.tmp 5) (.tmp 6) 49 75 (.agg #[.int .i64 0, .int .i64 0, .string ⟨#[]⟩]) 32 rfl Tryz.underlying49 infoVal rfl (by decide) (by decide) _ [] l (some ad) n c (fun _ => True) (fun _ => False) rfl rfl (made0 kVal 75 w) (Kd.C_below HR.out (below_alloc (Below.refl _ _) _)) (fun x cs h => by obtain rfl := kVal_open h; exact kVal_mkM _ _ _ _) (fun k hk => hk.elim) (fun _ _ => trivial) (below_alloc (Below.refl _ _) _) (by simp) (by simp; omega) ?_; intro v1 w1 ho1 hb1 hg1 _)
    go_ret
    exact ⟨_, rfl, by assumption, by assumption⟩

set_option maxHeartbeats 1000000 in
theorem cloneCol_calls (A : Option Addr) (n c : Nat) (l : List Col) (w : World) (hr : kCol.C w A n l) (hn : n * 32 ≤ 140737488355328) :
    Calls Tryz.prog 55 #[.slice A n c] w (FreshOf kCol 51 w l) := by
  have HR := Aside0.mk hr
  have hq : ∀ W : World, (binOp .eql 41 (.slice A n c) (.slice none 0 0)).run Tryz.prog W = .ok (.bool A.isNone) W := fun W => Lib.run_eql_slice_nil W 41 51 A n c 0 0 Tryz.underlying41
  cases A with
  | none =>
    obtain ⟨rfl, rfl⟩ := C_nil_of hr
    clear hr
    go_enter Tryz.func55, Tryz.ntmps55
    go_wp2
    go_ret
    exact ⟨_, rfl, Kd.R_nil _ _ _ _ _, Below.refl _ _⟩
  | some ad =>
    clear hr
    go_enter Tryz.func55, Tryz.ntmps55
    go_wp2_with (refine Kd.R_append_rows kCol (w0 := w) w.heap.size rfl (.tmp 5) (.tmp 6) 41 51 (.agg #[.string ⟨#[]⟩, .int .i64 0, .bool false]) 32 rfl Tryz.underlying41 infoCol rfl (by decide) (by decide) _ [] l (some ad) n c (fun _ => True) (fun _ => False) rfl rfl (made0 kCol 51 w) (Kd.C_below HR.out (below_alloc (Below.refl _ _) _)) (fun x cs h => by obtain rfl := kCol_open h; exact kCol_mkM _ _ _ _) (fun k hk => hk.elim) (fun _ _ => trivial) (below_alloc (Below.refl _ _) _) (by simp) (by simp; omega) ?_; intro v1 w1 ho1 hb1 hg1 _)
    go_ret
    exact ⟨_, rfl, by assumption, by assumption⟩
end Go.Proofs.YtmdofdaiepilbaaGreatDoor

/- The api's structs as Lean structures, and what their cells say. Written by a program (gen_kinds.py of this claim's author); lemmas alone. -/
namespace Go.Proofs.YtmdofdaiepilbaaGreatDoor
open Go.RowKit Go.Proofs.YtmdofdaiepilbaaGreatDoorW.PrintWords
set_option linter.unusedVariables false
set_option linter.unusedSimpArgs false
/-! #### api.Write -/
structure Wri where
  kind : Int
  table : ByteArray
  row : List Val
  change : Chg
def zWri : Wri := ⟨(0 : Int), (⟨#[]⟩ : ByteArray), ([] : List Val), zChg⟩
def kWri : Kd Wri := Kd.iso (Kd.pair (Kd.int .i64) (Kd.pair Kd.string (Kd.pair (Kd.slice 75 kVal) kChg))) (fun x : Wri => (x.kind, x.table, x.row, x.change))
theorem kWri_open {w : World} {x : Wri} {cs : List Value} (h : kWri.K w x cs) : ∃ A2 c2 A5 c5, cs = [.int .i64 x.kind, .string x.table, .slice A2 x.row.length c2, .int .i64 x.change.kind, .string x.change.table, .slice A5 x.change.schema.cols.length c5, .int .i64 x.change.schema.keys, .string x.change.column.name, .int .i64 x.change.column.kind, .bool x.change.column.none] ∧ x.row.length ≤ c2 ∧ kVal.C w A2 x.row.length x.row ∧ x.change.schema.cols.length ≤ c5 ∧ kCol.C w A5 x.change.schema.cols.length x.change.schema.cols := by
  obtain ⟨_, _, rfl, rfl, ⟨_, _, rfl, rfl, ⟨_, _, rfl, ⟨A2, c2, rfl, l2, g2⟩, s3⟩⟩⟩ := h
  obtain ⟨A5, c5, rfl, l5, g5⟩ := kChg_open s3
  exact ⟨A2, c2, A5, c5, rfl, l2, g2, l5, g5⟩
theorem kWri_openM {w : World} {base : Nat} {ok : Nat → Prop} {x : Wri} {cs : List Value} (h : kWri.M w base ok x cs) : ∃ v2 v5, cs = [.int .i64 x.kind, .string x.table, v2, .int .i64 x.change.kind, .string x.change.table, v5, .int .i64 x.change.schema.keys, .string x.change.column.name, .int .i64 x.change.column.kind, .bool x.change.column.none] ∧ kVal.R 75 w base ok v2 x.row ∧ kCol.R 51 w base ok v5 x.change.schema.cols := by
  obtain ⟨_, _, rfl, rfl, ⟨_, _, rfl, rfl, ⟨_, _, rfl, ⟨v2, rfl, g2⟩, s3⟩⟩⟩ := h
  obtain ⟨v5, rfl, g5⟩ := kChg_openM s3
  exact ⟨v2, v5, rfl, g2, g5⟩
theorem kWri_mk (w : World) (x : Wri) {A2 : Option Addr} {c2 : Nat} (l2 : x.row.length ≤ c2) (g2 : kVal.C w A2 x.row.length x.row) {A5 : Option Addr} {c5 : Nat} (l5 : x.change.schema.cols.length ≤ c5) (g5 : kCol.C w A5 x.change.schema.cols.length x.change.schema.cols) : kWri.K w x [.int .i64 x.kind, .string x.table, .slice A2 x.row.length c2, .int .i64 x.change.kind, .string x.change.table, .slice A5 x.change.schema.cols.length c5, .int .i64 x.change.schema.keys, .string x.change.column.name, .int .i64 x.change.column.kind, .bool x.change.column.none] := ⟨[.int .i64 x.kind], [.string x.table, .slice A2 x.row.length c2, .int .i64 x.change.kind, .string x.change.table, .slice A5 x.change.schema.cols.length c5, .int .i64 x.change.schema.keys, .string x.change.column.name, .int .i64 x.change.column.kind, .bool x.change.column.none], rfl, rfl, ⟨[.string x.table], [.slice A2 x.row.length c2, .int .i64 x.change.kind, .string x.change.table, .slice A5 x.change.schema.cols.length c5, .int .i64 x.change.schema.keys, .string x.change.column.name, .int .i64 x.change.column.kind, .bool x.change.column.none], rfl, rfl, ⟨[.slice A2 x.row.length c2], [.int .i64 x.change.kind, .string x.change.table, .slice A5 x.change.schema.cols.length c5, .int .i64 x.change.schema.keys, .string x.change.column.name, .int .i64 x.change.column.kind, .bool x.change.column.none], rfl, ⟨A2, c2, rfl, l2, g2⟩, (kChg_mk w (x.change) l5 g5)⟩⟩⟩
theorem kWri_mkM (w : World) (base : Nat) (ok : Nat → Prop) (x : Wri) {v2 : Value} (g2 : kVal.R 75 w base ok v2 x.row) {v5 : Value} (g5 : kCol.R 51 w base ok v5 x.change.schema.cols) : kWri.M w base ok x [.int .i64 x.kind, .string x.table, v2, .int .i64 x.change.kind, .string x.change.table, v5, .int .i64 x.change.schema.keys, .string x.change.column.name, .int .i64 x.change.column.kind, .bool x.change.column.none] := ⟨[.int .i64 x.kind], [.string x.table, v2, .int .i64 x.change.kind, .string x.change.table, v5, .int .i64 x.change.schema.keys, .string x.change.column.name, .int .i64 x.change.column.kind, .bool x.change.column.none], rfl, rfl, ⟨[.string x.table], [v2, .int .i64 x.change.kind, .string x.change.table, v5, .int .i64 x.change.schema.keys, .string x.change.column.name, .int .i64 x.change.column.kind, .bool x.change.column.none], rfl, rfl, ⟨[v2], [.int .i64 x.change.kind, .string x.change.table, v5, .int .i64 x.change.schema.keys, .string x.change.column.name, .int .i64 x.change.column.kind, .bool x.change.column.none], rfl, ⟨v2, rfl, g2⟩, (kChg_mkM w base ok (x.change) g5)⟩⟩⟩
def rdWri (xs : List Wri) (i : Nat) : Wri := xs.getD i zWri
theorem at_Wri {w : World} {A : Option Addr} {n : Nat} {xs : List Wri} (h : Kd.C kWri w A n xs) (i : Nat) (h1 : i < n) : ∃ ad A2 c2 A5 c5, A = some ad ∧ w.cell? (ad.add (i * 10)) = some (.int .i64 (rdWri xs i).kind) ∧ w.cell? ⟨(ad.add (i * 10)).block, (ad.add (i * 10)).off + 1, none⟩ = some (.string (rdWri xs i).table) ∧ w.cell? ⟨(ad.add (i * 10)).block, (ad.add (i * 10)).off + 2, none⟩ = some (.slice A2 (rdWri xs i).row.length c2) ∧ w.cell? ⟨(ad.add (i * 10)).block, (ad.add (i * 10)).off + 3, none⟩ = some (.int .i64 (rdWri xs i).change.kind) ∧ w.cell? ⟨(ad.add (i * 10)).block, (ad.add (i * 10)).off + 4, none⟩ = some (.string (rdWri xs i).change.table) ∧ w.cell? ⟨(ad.add (i * 10)).block, (ad.add (i * 10)).off + 5, none⟩ = some (.slice A5 (rdWri xs i).change.schema.cols.length c5) ∧ w.cell? ⟨(ad.add (i * 10)).block, (ad.add (i * 10)).off + 6, none⟩ = some (.int .i64 (rdWri xs i).change.schema.keys) ∧ w.cell? ⟨(ad.add (i * 10)).block, (ad.add (i * 10)).off + 7, none⟩ = some (.string (rdWri xs i).change.column.name) ∧ w.cell? ⟨(ad.add (i * 10)).block, (ad.add (i * 10)).off + 8, none⟩ = some (.int .i64 (rdWri xs i).change.column.kind) ∧ w.cell? ⟨(ad.add (i * 10)).block, (ad.add (i * 10)).off + 9, none⟩ = some (.bool (rdWri xs i).change.column.none) ∧ (rdWri xs i).row.length ≤ c2 ∧ kVal.C w A2 (rdWri xs i).row.length (rdWri xs i).row ∧ (rdWri xs i).change.schema.cols.length ≤ c5 ∧ kCol.C w A5 (rdWri xs i).change.schema.cols.length (rdWri xs i).change.schema.cols := by
  obtain ⟨ad, c, e, _, hK, hc0⟩ := Kd.C_get h zWri (i : Int) (by omega) (by omega)
  rw [Int.toNat_natCast] at hK hc0
  have hc : ∀ j u, c[j]? = some u → w.cell? (ad.add (i * 10 + j)) = some u := hc0
  obtain ⟨A2, c2, A5, c5, rfl, l2, g2, l5, g5⟩ := kWri_open hK
  exact ⟨ad, A2, c2, A5, c5, e, hc 0 _ rfl, by rw [← add_field _ _ 1 (by omega)]; exact hc 1 _ rfl, by rw [← add_field _ _ 2 (by omega)]; exact hc 2 _ rfl, by rw [← add_field _ _ 3 (by omega)]; exact hc 3 _ rfl, by rw [← add_field _ _ 4 (by omega)]; exact hc 4 _ rfl, by rw [← add_field _ _ 5 (by omega)]; exact hc 5 _ rfl, by rw [← add_field _ _ 6 (by omega)]; exact hc 6 _ rfl, by rw [← add_field _ _ 7 (by omega)]; exact hc 7 _ rfl, by rw [← add_field _ _ 8 (by omega)]; exact hc 8 _ rfl, by rw [← add_field _ _ 9 (by omega)]; exact hc 9 _ rfl, l2, g2, l5, g5⟩

/-! #### api.Table -/
structure Tab where
  name : ByteArray
  schema : Sch
def zTab : Tab := ⟨(⟨#[]⟩ : ByteArray), zSch⟩
def kTab : Kd Tab := Kd.iso (Kd.pair Kd.string kSch) (fun x : Tab => (x.name, x.schema))
theorem kTab_open {w : World} {x : Tab} {cs : List Value} (h : kTab.K w x cs) : ∃ A1 c1, cs = [.string x.name, .slice A1 x.schema.cols.length c1, .int .i64 x.schema.keys] ∧ x.schema.cols.length ≤ c1 ∧ kCol.C w A1 x.schema.cols.length x.schema.cols := by
  obtain ⟨_, _, rfl, rfl, s1⟩ := h
  obtain ⟨A1, c1, rfl, l1, g1⟩ := kSch_open s1
  exact ⟨A1, c1, rfl, l1, g1⟩
theorem kTab_openM {w : World} {base : Nat} {ok : Nat → Prop} {x : Tab} {cs : List Value} (h : kTab.M w base ok x cs) : ∃ v1, cs = [.string x.name, v1, .int .i64 x.schema.keys] ∧ kCol.R 51 w base ok v1 x.schema.cols := by
  obtain ⟨_, _, rfl, rfl, s1⟩ := h
  obtain ⟨v1, rfl, g1⟩ := kSch_openM s1
  exact ⟨v1, rfl, g1⟩
theorem kTab_mk (w : World) (x : Tab) {A1 : Option Addr} {c1 : Nat} (l1 : x.schema.cols.length ≤ c1) (g1 : kCol.C w A1 x.schema.cols.length x.schema.cols) : kTab.K w x [.string x.name, .slice A1 x.schema.cols.length c1, .int .i64 x.schema.keys] := ⟨[.string x.name], [.slice A1 x.schema.cols.length c1, .int .i64 x.schema.keys], rfl, rfl, (kSch_mk w (x.schema) l1 g1)⟩
theorem kTab_mkM (w : World) (base : Nat) (ok : Nat → Prop) (x : Tab) {v1 : Value} (g1 : kCol.R 51 w base ok v1 x.schema.cols) : kTab.M w base ok x [.string x.name, v1, .int .i64 x.schema.keys] := ⟨[.string x.name], [v1, .int .i64 x.schema.keys], rfl, rfl, (kSch_mkM w base ok (x.schema) g1)⟩
def rdTab (xs : List Tab) (i : Nat) : Tab := xs.getD i zTab
theorem at_Tab {w : World} {A : Option Addr} {n : Nat} {xs : List Tab} (h : Kd.C kTab w A n xs) (i : Nat) (h1 : i < n) : ∃ ad A1 c1, A = some ad ∧ w.cell? (ad.add (i * 3)) = some (.string (rdTab xs i).name) ∧ w.cell? ⟨(ad.add (i * 3)).block, (ad.add (i * 3)).off + 1, none⟩ = some (.slice A1 (rdTab xs i).schema.cols.length c1) ∧ w.cell? ⟨(ad.add (i * 3)).block, (ad.add (i * 3)).off + 2, none⟩ = some (.int .i64 (rdTab xs i).schema.keys) ∧ (rdTab xs i).schema.cols.length ≤ c1 ∧ kCol.C w A1 (rdTab xs i).schema.cols.length (rdTab xs i).schema.cols := by
  obtain ⟨ad, c, e, _, hK, hc0⟩ := Kd.C_get h zTab (i : Int) (by omega) (by omega)
  rw [Int.toNat_natCast] at hK hc0
  have hc : ∀ j u, c[j]? = some u → w.cell? (ad.add (i * 3 + j)) = some u := hc0
  obtain ⟨A1, c1, rfl, l1, g1⟩ := kTab_open hK
  exact ⟨ad, A1, c1, e, hc 0 _ rfl, by rw [← add_field _ _ 1 (by omega)]; exact hc 1 _ rfl, by rw [← add_field _ _ 2 (by omega)]; exact hc 2 _ rfl, l1, g1⟩

/-! #### api.Work -/
structure Wrk where
  table : ByteArray
  done : Bool
  key : ByteArray
def zWrk : Wrk := ⟨(⟨#[]⟩ : ByteArray), false, (⟨#[]⟩ : ByteArray)⟩
def kWrk : Kd Wrk := Kd.iso (Kd.pair Kd.string (Kd.pair Kd.bool Kd.string)) (fun x : Wrk => (x.table, x.done, x.key))
theorem kWrk_open {w : World} {x : Wrk} {cs : List Value} (h : kWrk.K w x cs) : cs = [.string x.table, .bool x.done, .string x.key] := by
  obtain ⟨_, _, rfl, rfl, ⟨_, _, rfl, rfl, rfl⟩⟩ := h
  exact rfl
theorem kWrk_openM {w : World} {base : Nat} {ok : Nat → Prop} {x : Wrk} {cs : List Value} (h : kWrk.M w base ok x cs) : cs = [.string x.table, .bool x.done, .string x.key] := by
  obtain ⟨_, _, rfl, rfl, ⟨_, _, rfl, rfl, rfl⟩⟩ := h
  exact rfl
theorem kWrk_mk (w : World) (x : Wrk)  : kWrk.K w x [.string x.table, .bool x.done, .string x.key] := ⟨[.string x.table], [.bool x.done, .string x.key], rfl, rfl, ⟨[.bool x.done], [.string x.key], rfl, rfl, rfl⟩⟩
theorem kWrk_mkM (w : World) (base : Nat) (ok : Nat → Prop) (x : Wrk)  : kWrk.M w base ok x [.string x.table, .bool x.done, .string x.key] := ⟨[.string x.table], [.bool x.done, .string x.key], rfl, rfl, ⟨[.bool x.done], [.string x.key], rfl, rfl, rfl⟩⟩
def rdWrk (xs : List Wrk) (i : Nat) : Wrk := xs.getD i zWrk
theorem at_Wrk {w : World} {A : Option Addr} {n : Nat} {xs : List Wrk} (h : Kd.C kWrk w A n xs) (i : Nat) (h1 : i < n) : ∃ ad, A = some ad ∧ w.cell? (ad.add (i * 3)) = some (.string (rdWrk xs i).table) ∧ w.cell? ⟨(ad.add (i * 3)).block, (ad.add (i * 3)).off + 1, none⟩ = some (.bool (rdWrk xs i).done) ∧ w.cell? ⟨(ad.add (i * 3)).block, (ad.add (i * 3)).off + 2, none⟩ = some (.string (rdWrk xs i).key) := by
  obtain ⟨ad, c, e, _, hK, hc0⟩ := Kd.C_get h zWrk (i : Int) (by omega) (by omega)
  rw [Int.toNat_natCast] at hK hc0
  have hc : ∀ j u, c[j]? = some u → w.cell? (ad.add (i * 3 + j)) = some u := hc0
  obtain rfl := kWrk_open hK
  exact ⟨ad, e, hc 0 _ rfl, by rw [← add_field _ _ 1 (by omega)]; exact hc 1 _ rfl, by rw [← add_field _ _ 2 (by omega)]; exact hc 2 _ rfl⟩

/-! #### api.Point -/
structure Pnt where
  pos : Int
  many : Int
  chunk : Int
  works : List Wrk
def zPnt : Pnt := ⟨(0 : Int), (0 : Int), (0 : Int), ([] : List Wrk)⟩
def kPnt : Kd Pnt := Kd.iso (Kd.pair (Kd.int .i64) (Kd.pair (Kd.int .i64) (Kd.pair (Kd.int .i64) (Kd.slice 47 kWrk)))) (fun x : Pnt => (x.pos, x.many, x.chunk, x.works))
theorem kPnt_open {w : World} {x : Pnt} {cs : List Value} (h : kPnt.K w x cs) : ∃ A3 c3, cs = [.int .i64 x.pos, .int .i64 x.many, .int .i64 x.chunk, .slice A3 x.works.length c3] ∧ x.works.length ≤ c3 ∧ kWrk.C w A3 x.works.length x.works := by
  obtain ⟨_, _, rfl, rfl, ⟨_, _, rfl, rfl, ⟨_, _, rfl, rfl, ⟨A3, c3, rfl, l3, g3⟩⟩⟩⟩ := h
  exact ⟨A3, c3, rfl, l3, g3⟩
theorem kPnt_openM {w : World} {base : Nat} {ok : Nat → Prop} {x : Pnt} {cs : List Value} (h : kPnt.M w base ok x cs) : ∃ v3, cs = [.int .i64 x.pos, .int .i64 x.many, .int .i64 x.chunk, v3] ∧ kWrk.R 47 w base ok v3 x.works := by
  obtain ⟨_, _, rfl, rfl, ⟨_, _, rfl, rfl, ⟨_, _, rfl, rfl, ⟨v3, rfl, g3⟩⟩⟩⟩ := h
  exact ⟨v3, rfl, g3⟩
theorem kPnt_mk (w : World) (x : Pnt) {A3 : Option Addr} {c3 : Nat} (l3 : x.works.length ≤ c3) (g3 : kWrk.C w A3 x.works.length x.works) : kPnt.K w x [.int .i64 x.pos, .int .i64 x.many, .int .i64 x.chunk, .slice A3 x.works.length c3] := ⟨[.int .i64 x.pos], [.int .i64 x.many, .int .i64 x.chunk, .slice A3 x.works.length c3], rfl, rfl, ⟨[.int .i64 x.many], [.int .i64 x.chunk, .slice A3 x.works.length c3], rfl, rfl, ⟨[.int .i64 x.chunk], [.slice A3 x.works.length c3], rfl, rfl, ⟨A3, c3, rfl, l3, g3⟩⟩⟩⟩
theorem kPnt_mkM (w : World) (base : Nat) (ok : Nat → Prop) (x : Pnt) {v3 : Value} (g3 : kWrk.R 47 w base ok v3 x.works) : kPnt.M w base ok x [.int .i64 x.pos, .int .i64 x.many, .int .i64 x.chunk, v3] := ⟨[.int .i64 x.pos], [.int .i64 x.many, .int .i64 x.chunk, v3], rfl, rfl, ⟨[.int .i64 x.many], [.int .i64 x.chunk, v3], rfl, rfl, ⟨[.int .i64 x.chunk], [v3], rfl, rfl, ⟨v3, rfl, g3⟩⟩⟩⟩
def rdPnt (xs : List Pnt) (i : Nat) : Pnt := xs.getD i zPnt
theorem at_Pnt {w : World} {A : Option Addr} {n : Nat} {xs : List Pnt} (h : Kd.C kPnt w A n xs) (i : Nat) (h1 : i < n) : ∃ ad A3 c3, A = some ad ∧ w.cell? (ad.add (i * 4)) = some (.int .i64 (rdPnt xs i).pos) ∧ w.cell? ⟨(ad.add (i * 4)).block, (ad.add (i * 4)).off + 1, none⟩ = some (.int .i64 (rdPnt xs i).many) ∧ w.cell? ⟨(ad.add (i * 4)).block, (ad.add (i * 4)).off + 2, none⟩ = some (.int .i64 (rdPnt xs i).chunk) ∧ w.cell? ⟨(ad.add (i * 4)).block, (ad.add (i * 4)).off + 3, none⟩ = some (.slice A3 (rdPnt xs i).works.length c3) ∧ (rdPnt xs i).works.length ≤ c3 ∧ kWrk.C w A3 (rdPnt xs i).works.length (rdPnt xs i).works := by
  obtain ⟨ad, c, e, _, hK, hc0⟩ := Kd.C_get h zPnt (i : Int) (by omega) (by omega)
  rw [Int.toNat_natCast] at hK hc0
  have hc : ∀ j u, c[j]? = some u → w.cell? (ad.add (i * 4 + j)) = some u := hc0
  obtain ⟨A3, c3, rfl, l3, g3⟩ := kPnt_open hK
  exact ⟨ad, A3, c3, e, hc 0 _ rfl, by rw [← add_field _ _ 1 (by omega)]; exact hc 1 _ rfl, by rw [← add_field _ _ 2 (by omega)]; exact hc 2 _ rfl, by rw [← add_field _ _ 3 (by omega)]; exact hc 3 _ rfl, l3, g3⟩
end Go.Proofs.YtmdofdaiepilbaaGreatDoor
