/- The api's structs as Lean structures, and what their cells say. Written by a program (gen_kinds.py of this claim's author); lemmas alone. -/
import Derived.Test.YtapcoekakbbmcaaGreatDoorApiKinds
namespace Go.Proofs.YtapcoekakbbmcaaGreatDoor
open Go.RowKit Go.Proofs.YtapcoekakbbmcaaGreatDoorW.PrintWords
set_option linter.unusedVariables false
set_option linter.unusedSimpArgs false
/-! #### api.Write -/
structure Wri where
  kind : Int
  table : ByteArray
  row : List Val
  change : Chg
def zWri : Wri := ⟨(0 : Int), (⟨#[]⟩ : ByteArray), ([] : List Val), zChg⟩
def kWri : Kd Wri := Kd.iso (Kd.pair (Kd.int .i64) (Kd.pair Kd.string (Kd.pair (Kd.slice 70 kVal) kChg))) (fun x : Wri => (x.kind, x.table, x.row, x.change))
theorem kWri_open {w : World} {x : Wri} {cs : List Value} (h : kWri.K w x cs) : ∃ A2 c2 A5 c5, cs = [.int .i64 x.kind, .string x.table, .slice A2 x.row.length c2, .int .i64 x.change.kind, .string x.change.table, .slice A5 x.change.schema.cols.length c5, .int .i64 x.change.schema.keys, .string x.change.column.name, .int .i64 x.change.column.kind, .bool x.change.column.none] ∧ x.row.length ≤ c2 ∧ kVal.C w A2 x.row.length x.row ∧ x.change.schema.cols.length ≤ c5 ∧ kCol.C w A5 x.change.schema.cols.length x.change.schema.cols := by
  obtain ⟨_, _, rfl, rfl, ⟨_, _, rfl, rfl, ⟨_, _, rfl, ⟨A2, c2, rfl, l2, g2⟩, s3⟩⟩⟩ := h
  obtain ⟨A5, c5, rfl, l5, g5⟩ := kChg_open s3
  exact ⟨A2, c2, A5, c5, rfl, l2, g2, l5, g5⟩
theorem kWri_openM {w : World} {base : Nat} {ok : Nat → Prop} {x : Wri} {cs : List Value} (h : kWri.M w base ok x cs) : ∃ v2 v5, cs = [.int .i64 x.kind, .string x.table, v2, .int .i64 x.change.kind, .string x.change.table, v5, .int .i64 x.change.schema.keys, .string x.change.column.name, .int .i64 x.change.column.kind, .bool x.change.column.none] ∧ kVal.R 70 w base ok v2 x.row ∧ kCol.R 28 w base ok v5 x.change.schema.cols := by
  obtain ⟨_, _, rfl, rfl, ⟨_, _, rfl, rfl, ⟨_, _, rfl, ⟨v2, rfl, g2⟩, s3⟩⟩⟩ := h
  obtain ⟨v5, rfl, g5⟩ := kChg_openM s3
  exact ⟨v2, v5, rfl, g2, g5⟩
theorem kWri_mk (w : World) (x : Wri) {A2 : Option Addr} {c2 : Nat} (l2 : x.row.length ≤ c2) (g2 : kVal.C w A2 x.row.length x.row) {A5 : Option Addr} {c5 : Nat} (l5 : x.change.schema.cols.length ≤ c5) (g5 : kCol.C w A5 x.change.schema.cols.length x.change.schema.cols) : kWri.K w x [.int .i64 x.kind, .string x.table, .slice A2 x.row.length c2, .int .i64 x.change.kind, .string x.change.table, .slice A5 x.change.schema.cols.length c5, .int .i64 x.change.schema.keys, .string x.change.column.name, .int .i64 x.change.column.kind, .bool x.change.column.none] := ⟨[.int .i64 x.kind], [.string x.table, .slice A2 x.row.length c2, .int .i64 x.change.kind, .string x.change.table, .slice A5 x.change.schema.cols.length c5, .int .i64 x.change.schema.keys, .string x.change.column.name, .int .i64 x.change.column.kind, .bool x.change.column.none], rfl, rfl, ⟨[.string x.table], [.slice A2 x.row.length c2, .int .i64 x.change.kind, .string x.change.table, .slice A5 x.change.schema.cols.length c5, .int .i64 x.change.schema.keys, .string x.change.column.name, .int .i64 x.change.column.kind, .bool x.change.column.none], rfl, rfl, ⟨[.slice A2 x.row.length c2], [.int .i64 x.change.kind, .string x.change.table, .slice A5 x.change.schema.cols.length c5, .int .i64 x.change.schema.keys, .string x.change.column.name, .int .i64 x.change.column.kind, .bool x.change.column.none], rfl, ⟨A2, c2, rfl, l2, g2⟩, (kChg_mk w (x.change) l5 g5)⟩⟩⟩
theorem kWri_mkM (w : World) (base : Nat) (ok : Nat → Prop) (x : Wri) {v2 : Value} (g2 : kVal.R 70 w base ok v2 x.row) {v5 : Value} (g5 : kCol.R 28 w base ok v5 x.change.schema.cols) : kWri.M w base ok x [.int .i64 x.kind, .string x.table, v2, .int .i64 x.change.kind, .string x.change.table, v5, .int .i64 x.change.schema.keys, .string x.change.column.name, .int .i64 x.change.column.kind, .bool x.change.column.none] := ⟨[.int .i64 x.kind], [.string x.table, v2, .int .i64 x.change.kind, .string x.change.table, v5, .int .i64 x.change.schema.keys, .string x.change.column.name, .int .i64 x.change.column.kind, .bool x.change.column.none], rfl, rfl, ⟨[.string x.table], [v2, .int .i64 x.change.kind, .string x.change.table, v5, .int .i64 x.change.schema.keys, .string x.change.column.name, .int .i64 x.change.column.kind, .bool x.change.column.none], rfl, rfl, ⟨[v2], [.int .i64 x.change.kind, .string x.change.table, v5, .int .i64 x.change.schema.keys, .string x.change.column.name, .int .i64 x.change.column.kind, .bool x.change.column.none], rfl, ⟨v2, rfl, g2⟩, (kChg_mkM w base ok (x.change) g5)⟩⟩⟩
def rdWri (xs : List Wri) (i : Nat) : Wri := xs.getD i zWri
theorem at_Wri {w : World} {A : Option Addr} {n : Nat} {xs : List Wri} (h : Kd.C kWri w A n xs) (i : Nat) (h1 : i < n) : ∃ ad A2 c2 A5 c5, A = some ad ∧ w.cell? (ad.add (i * 10)) = some (.int .i64 (rdWri xs i).kind) ∧ w.cell? ⟨(ad.add (i * 10)).block, (ad.add (i * 10)).off + 1, none⟩ = some (.string (rdWri xs i).table) ∧ w.cell? ⟨(ad.add (i * 10)).block, (ad.add (i * 10)).off + 2, none⟩ = some (.slice A2 (rdWri xs i).row.length c2) ∧ w.cell? ⟨(ad.add (i * 10)).block, (ad.add (i * 10)).off + 3, none⟩ = some (.int .i64 (rdWri xs i).change.kind) ∧ w.cell? ⟨(ad.add (i * 10)).block, (ad.add (i * 10)).off + 4, none⟩ = some (.string (rdWri xs i).change.table) ∧ w.cell? ⟨(ad.add (i * 10)).block, (ad.add (i * 10)).off + 5, none⟩ = some (.slice A5 (rdWri xs i).change.schema.cols.length c5) ∧ w.cell? ⟨(ad.add (i * 10)).block, (ad.add (i * 10)).off + 6, none⟩ = some (.int .i64 (rdWri xs i).change.schema.keys) ∧ w.cell? ⟨(ad.add (i * 10)).block, (ad.add (i * 10)).off + 7, none⟩ = some (.string (rdWri xs i).change.column.name) ∧ w.cell? ⟨(ad.add (i * 10)).block, (ad.add (i * 10)).off + 8, none⟩ = some (.int .i64 (rdWri xs i).change.column.kind) ∧ w.cell? ⟨(ad.add (i * 10)).block, (ad.add (i * 10)).off + 9, none⟩ = some (.bool (rdWri xs i).change.column.none) ∧ (rdWri xs i).row.length ≤ c2 ∧ kVal.C w A2 (rdWri xs i).row.length (rdWri xs i).row ∧ (rdWri xs i).change.schema.cols.length ≤ c5 ∧ kCol.C w A5 (rdWri xs i).change.schema.cols.length (rdWri xs i).change.schema.cols := by
  obtain ⟨ad, c, e, _, hK, hc0⟩ := Kd.C_get h zWri (i : Int) (by omega) (by omega)
  rw [Int.toNat_natCast] at hK hc0
  have hc : ∀ j u, c[j]? = some u → w.cell? (ad.add (i * 10 + j)) = some u := hc0
  obtain ⟨A2, c2, A5, c5, rfl, l2, g2, l5, g5⟩ := kWri_open hK
  exact ⟨ad, A2, c2, A5, c5, e, hc 0 _ rfl, by rw [← add_field _ _ 1 (by omega)]; exact hc 1 _ rfl, by rw [← add_field _ _ 2 (by omega)]; exact hc 2 _ rfl, by rw [← add_field _ _ 3 (by omega)]; exact hc 3 _ rfl, by rw [← add_field _ _ 4 (by omega)]; exact hc 4 _ rfl, by rw [← add_field _ _ 5 (by omega)]; exact hc 5 _ rfl, by rw [← add_field _ _ 6 (by omega)]; exact hc 6 _ rfl, by rw [← add_field _ _ 7 (by omega)]; exact hc 7 _ rfl, by rw [← add_field _ _ 8 (by omega)]; exact hc 8 _ rfl, by rw [← add_field _ _ 9 (by omega)]; exact hc 9 _ rfl, l2, g2, l5, g5⟩

/-! #### api.Table -/
structure Tab where
  name : ByteArray
  schema : Sch
def zTab : Tab := ⟨(⟨#[]⟩ : ByteArray), zSch⟩
def kTab : Kd Tab := Kd.iso (Kd.pair Kd.string kSch) (fun x : Tab => (x.name, x.schema))
theorem kTab_open {w : World} {x : Tab} {cs : List Value} (h : kTab.K w x cs) : ∃ A1 c1, cs = [.string x.name, .slice A1 x.schema.cols.length c1, .int .i64 x.schema.keys] ∧ x.schema.cols.length ≤ c1 ∧ kCol.C w A1 x.schema.cols.length x.schema.cols := by
  obtain ⟨_, _, rfl, rfl, s1⟩ := h
  obtain ⟨A1, c1, rfl, l1, g1⟩ := kSch_open s1
  exact ⟨A1, c1, rfl, l1, g1⟩
theorem kTab_openM {w : World} {base : Nat} {ok : Nat → Prop} {x : Tab} {cs : List Value} (h : kTab.M w base ok x cs) : ∃ v1, cs = [.string x.name, v1, .int .i64 x.schema.keys] ∧ kCol.R 28 w base ok v1 x.schema.cols := by
  obtain ⟨_, _, rfl, rfl, s1⟩ := h
  obtain ⟨v1, rfl, g1⟩ := kSch_openM s1
  exact ⟨v1, rfl, g1⟩
theorem kTab_mk (w : World) (x : Tab) {A1 : Option Addr} {c1 : Nat} (l1 : x.schema.cols.length ≤ c1) (g1 : kCol.C w A1 x.schema.cols.length x.schema.cols) : kTab.K w x [.string x.name, .slice A1 x.schema.cols.length c1, .int .i64 x.schema.keys] := ⟨[.string x.name], [.slice A1 x.schema.cols.length c1, .int .i64 x.schema.keys], rfl, rfl, (kSch_mk w (x.schema) l1 g1)⟩
theorem kTab_mkM (w : World) (base : Nat) (ok : Nat → Prop) (x : Tab) {v1 : Value} (g1 : kCol.R 28 w base ok v1 x.schema.cols) : kTab.M w base ok x [.string x.name, v1, .int .i64 x.schema.keys] := ⟨[.string x.name], [v1, .int .i64 x.schema.keys], rfl, rfl, (kSch_mkM w base ok (x.schema) g1)⟩
def rdTab (xs : List Tab) (i : Nat) : Tab := xs.getD i zTab
theorem at_Tab {w : World} {A : Option Addr} {n : Nat} {xs : List Tab} (h : Kd.C kTab w A n xs) (i : Nat) (h1 : i < n) : ∃ ad A1 c1, A = some ad ∧ w.cell? (ad.add (i * 3)) = some (.string (rdTab xs i).name) ∧ w.cell? ⟨(ad.add (i * 3)).block, (ad.add (i * 3)).off + 1, none⟩ = some (.slice A1 (rdTab xs i).schema.cols.length c1) ∧ w.cell? ⟨(ad.add (i * 3)).block, (ad.add (i * 3)).off + 2, none⟩ = some (.int .i64 (rdTab xs i).schema.keys) ∧ (rdTab xs i).schema.cols.length ≤ c1 ∧ kCol.C w A1 (rdTab xs i).schema.cols.length (rdTab xs i).schema.cols := by
  obtain ⟨ad, c, e, _, hK, hc0⟩ := Kd.C_get h zTab (i : Int) (by omega) (by omega)
  rw [Int.toNat_natCast] at hK hc0
  have hc : ∀ j u, c[j]? = some u → w.cell? (ad.add (i * 3 + j)) = some u := hc0
  obtain ⟨A1, c1, rfl, l1, g1⟩ := kTab_open hK
  exact ⟨ad, A1, c1, e, hc 0 _ rfl, by rw [← add_field _ _ 1 (by omega)]; exact hc 1 _ rfl, by rw [← add_field _ _ 2 (by omega)]; exact hc 2 _ rfl, l1, g1⟩

/-! #### api.Work -/
structure Wrk where
  table : ByteArray
  done : Bool
  key : ByteArray
def zWrk : Wrk := ⟨(⟨#[]⟩ : ByteArray), false, (⟨#[]⟩ : ByteArray)⟩
def kWrk : Kd Wrk := Kd.iso (Kd.pair Kd.string (Kd.pair Kd.bool Kd.string)) (fun x : Wrk => (x.table, x.done, x.key))
theorem kWrk_open {w : World} {x : Wrk} {cs : List Value} (h : kWrk.K w x cs) : cs = [.string x.table, .bool x.done, .string x.key] := by
  obtain ⟨_, _, rfl, rfl, ⟨_, _, rfl, rfl, rfl⟩⟩ := h
  exact rfl
theorem kWrk_openM {w : World} {base : Nat} {ok : Nat → Prop} {x : Wrk} {cs : List Value} (h : kWrk.M w base ok x cs) : cs = [.string x.table, .bool x.done, .string x.key] := by
  obtain ⟨_, _, rfl, rfl, ⟨_, _, rfl, rfl, rfl⟩⟩ := h
  exact rfl
theorem kWrk_mk (w : World) (x : Wrk)  : kWrk.K w x [.string x.table, .bool x.done, .string x.key] := ⟨[.string x.table], [.bool x.done, .string x.key], rfl, rfl, ⟨[.bool x.done], [.string x.key], rfl, rfl, rfl⟩⟩
theorem kWrk_mkM (w : World) (base : Nat) (ok : Nat → Prop) (x : Wrk)  : kWrk.M w base ok x [.string x.table, .bool x.done, .string x.key] := ⟨[.string x.table], [.bool x.done, .string x.key], rfl, rfl, ⟨[.bool x.done], [.string x.key], rfl, rfl, rfl⟩⟩
def rdWrk (xs : List Wrk) (i : Nat) : Wrk := xs.getD i zWrk
theorem at_Wrk {w : World} {A : Option Addr} {n : Nat} {xs : List Wrk} (h : Kd.C kWrk w A n xs) (i : Nat) (h1 : i < n) : ∃ ad, A = some ad ∧ w.cell? (ad.add (i * 3)) = some (.string (rdWrk xs i).table) ∧ w.cell? ⟨(ad.add (i * 3)).block, (ad.add (i * 3)).off + 1, none⟩ = some (.bool (rdWrk xs i).done) ∧ w.cell? ⟨(ad.add (i * 3)).block, (ad.add (i * 3)).off + 2, none⟩ = some (.string (rdWrk xs i).key) := by
  obtain ⟨ad, c, e, _, hK, hc0⟩ := Kd.C_get h zWrk (i : Int) (by omega) (by omega)
  rw [Int.toNat_natCast] at hK hc0
  have hc : ∀ j u, c[j]? = some u → w.cell? (ad.add (i * 3 + j)) = some u := hc0
  obtain rfl := kWrk_open hK
  exact ⟨ad, e, hc 0 _ rfl, by rw [← add_field _ _ 1 (by omega)]; exact hc 1 _ rfl, by rw [← add_field _ _ 2 (by omega)]; exact hc 2 _ rfl⟩

/-! #### api.Point -/
structure Pnt where
  pos : Int
  many : Int
  chunk : Int
  works : List Wrk
def zPnt : Pnt := ⟨(0 : Int), (0 : Int), (0 : Int), ([] : List Wrk)⟩
def kPnt : Kd Pnt := Kd.iso (Kd.pair (Kd.int .i64) (Kd.pair (Kd.int .i64) (Kd.pair (Kd.int .i64) (Kd.slice 106 kWrk)))) (fun x : Pnt => (x.pos, x.many, x.chunk, x.works))
theorem kPnt_open {w : World} {x : Pnt} {cs : List Value} (h : kPnt.K w x cs) : ∃ A3 c3, cs = [.int .i64 x.pos, .int .i64 x.many, .int .i64 x.chunk, .slice A3 x.works.length c3] ∧ x.works.length ≤ c3 ∧ kWrk.C w A3 x.works.length x.works := by
  obtain ⟨_, _, rfl, rfl, ⟨_, _, rfl, rfl, ⟨_, _, rfl, rfl, ⟨A3, c3, rfl, l3, g3⟩⟩⟩⟩ := h
  exact ⟨A3, c3, rfl, l3, g3⟩
theorem kPnt_openM {w : World} {base : Nat} {ok : Nat → Prop} {x : Pnt} {cs : List Value} (h : kPnt.M w base ok x cs) : ∃ v3, cs = [.int .i64 x.pos, .int .i64 x.many, .int .i64 x.chunk, v3] ∧ kWrk.R 106 w base ok v3 x.works := by
  obtain ⟨_, _, rfl, rfl, ⟨_, _, rfl, rfl, ⟨_, _, rfl, rfl, ⟨v3, rfl, g3⟩⟩⟩⟩ := h
  exact ⟨v3, rfl, g3⟩
theorem kPnt_mk (w : World) (x : Pnt) {A3 : Option Addr} {c3 : Nat} (l3 : x.works.length ≤ c3) (g3 : kWrk.C w A3 x.works.length x.works) : kPnt.K w x [.int .i64 x.pos, .int .i64 x.many, .int .i64 x.chunk, .slice A3 x.works.length c3] := ⟨[.int .i64 x.pos], [.int .i64 x.many, .int .i64 x.chunk, .slice A3 x.works.length c3], rfl, rfl, ⟨[.int .i64 x.many], [.int .i64 x.chunk, .slice A3 x.works.length c3], rfl, rfl, ⟨[.int .i64 x.chunk], [.slice A3 x.works.length c3], rfl, rfl, ⟨A3, c3, rfl, l3, g3⟩⟩⟩⟩
theorem kPnt_mkM (w : World) (base : Nat) (ok : Nat → Prop) (x : Pnt) {v3 : Value} (g3 : kWrk.R 106 w base ok v3 x.works) : kPnt.M w base ok x [.int .i64 x.pos, .int .i64 x.many, .int .i64 x.chunk, v3] := ⟨[.int .i64 x.pos], [.int .i64 x.many, .int .i64 x.chunk, v3], rfl, rfl, ⟨[.int .i64 x.many], [.int .i64 x.chunk, v3], rfl, rfl, ⟨[.int .i64 x.chunk], [v3], rfl, rfl, ⟨v3, rfl, g3⟩⟩⟩⟩
def rdPnt (xs : List Pnt) (i : Nat) : Pnt := xs.getD i zPnt
theorem at_Pnt {w : World} {A : Option Addr} {n : Nat} {xs : List Pnt} (h : Kd.C kPnt w A n xs) (i : Nat) (h1 : i < n) : ∃ ad A3 c3, A = some ad ∧ w.cell? (ad.add (i * 4)) = some (.int .i64 (rdPnt xs i).pos) ∧ w.cell? ⟨(ad.add (i * 4)).block, (ad.add (i * 4)).off + 1, none⟩ = some (.int .i64 (rdPnt xs i).many) ∧ w.cell? ⟨(ad.add (i * 4)).block, (ad.add (i * 4)).off + 2, none⟩ = some (.int .i64 (rdPnt xs i).chunk) ∧ w.cell? ⟨(ad.add (i * 4)).block, (ad.add (i * 4)).off + 3, none⟩ = some (.slice A3 (rdPnt xs i).works.length c3) ∧ (rdPnt xs i).works.length ≤ c3 ∧ kWrk.C w A3 (rdPnt xs i).works.length (rdPnt xs i).works := by
  obtain ⟨ad, c, e, _, hK, hc0⟩ := Kd.C_get h zPnt (i : Int) (by omega) (by omega)
  rw [Int.toNat_natCast] at hK hc0
  have hc : ∀ j u, c[j]? = some u → w.cell? (ad.add (i * 4 + j)) = some u := hc0
  obtain ⟨A3, c3, rfl, l3, g3⟩ := kPnt_open hK
  exact ⟨ad, A3, c3, e, hc 0 _ rfl, by rw [← add_field _ _ 1 (by omega)]; exact hc 1 _ rfl, by rw [← add_field _ _ 2 (by omega)]; exact hc 2 _ rfl, by rw [← add_field _ _ 3 (by omega)]; exact hc 3 _ rfl, l3, g3⟩
end Go.Proofs.YtapcoekakbbmcaaGreatDoor
