/- The api's structs as Lean structures, and what their cells say. Written by a program (gen_kinds.py of this claim's author); lemmas alone. -/
import Derived.Test.YtbndgnbhmifefaaWWords
namespace Go.Proofs.Ytbndgnbhmifefaa
open Go.RowKit Go.Proofs.YtbndgnbhmifefaaW.PrintWords
set_option linter.unusedVariables false
set_option linter.unusedSimpArgs false
abbrev B8 := Int
abbrev kB8 : Kd Int := Kd.int .u8
abbrev I64 := Int
abbrev kI64 : Kd Int := Kd.int .i64
/-! #### pantographlaw08.Ask -/
structure Ask where
  kind : Int
  name : ByteArray
  dest : ByteArray
  bytes : List B8
  n : Int
  keep : List I64
def zAsk : Ask := ⟨(0 : Int), (⟨#[]⟩ : ByteArray), (⟨#[]⟩ : ByteArray), ([] : List B8), (0 : Int), ([] : List I64)⟩
def kAsk : Kd Ask := Kd.iso (Kd.pair (Kd.int .i64) (Kd.pair Kd.string (Kd.pair Kd.string (Kd.pair (Kd.slice 5 kB8) (Kd.pair (Kd.int .i64) (Kd.slice 3 kI64)))))) (fun x : Ask => (x.kind, x.name, x.dest, x.bytes, x.n, x.keep))
theorem kAsk_open {w : World} {x : Ask} {cs : List Value} (h : kAsk.K w x cs) : ∃ A3 c3 A5 c5, cs = [.int .i64 x.kind, .string x.name, .string x.dest, .slice A3 x.bytes.length c3, .int .i64 x.n, .slice A5 x.keep.length c5] ∧ x.bytes.length ≤ c3 ∧ kB8.C w A3 x.bytes.length x.bytes ∧ x.keep.length ≤ c5 ∧ kI64.C w A5 x.keep.length x.keep := by
  obtain ⟨_, _, rfl, rfl, ⟨_, _, rfl, rfl, ⟨_, _, rfl, rfl, ⟨_, _, rfl, ⟨A3, c3, rfl, l3, g3⟩, ⟨_, _, rfl, rfl, ⟨A5, c5, rfl, l5, g5⟩⟩⟩⟩⟩⟩ := h
  exact ⟨A3, c3, A5, c5, rfl, l3, g3, l5, g5⟩
theorem kAsk_openM {w : World} {base : Nat} {ok : Nat → Prop} {x : Ask} {cs : List Value} (h : kAsk.M w base ok x cs) : ∃ v3 v5, cs = [.int .i64 x.kind, .string x.name, .string x.dest, v3, .int .i64 x.n, v5] ∧ kB8.R 5 w base ok v3 x.bytes ∧ kI64.R 3 w base ok v5 x.keep := by
  obtain ⟨_, _, rfl, rfl, ⟨_, _, rfl, rfl, ⟨_, _, rfl, rfl, ⟨_, _, rfl, ⟨v3, rfl, g3⟩, ⟨_, _, rfl, rfl, ⟨v5, rfl, g5⟩⟩⟩⟩⟩⟩ := h
  exact ⟨v3, v5, rfl, g3, g5⟩
theorem kAsk_mk (w : World) (x : Ask) {A3 : Option Addr} {c3 : Nat} (l3 : x.bytes.length ≤ c3) (g3 : kB8.C w A3 x.bytes.length x.bytes) {A5 : Option Addr} {c5 : Nat} (l5 : x.keep.length ≤ c5) (g5 : kI64.C w A5 x.keep.length x.keep) : kAsk.K w x [.int .i64 x.kind, .string x.name, .string x.dest, .slice A3 x.bytes.length c3, .int .i64 x.n, .slice A5 x.keep.length c5] := ⟨[.int .i64 x.kind], [.string x.name, .string x.dest, .slice A3 x.bytes.length c3, .int .i64 x.n, .slice A5 x.keep.length c5], rfl, rfl, ⟨[.string x.name], [.string x.dest, .slice A3 x.bytes.length c3, .int .i64 x.n, .slice A5 x.keep.length c5], rfl, rfl, ⟨[.string x.dest], [.slice A3 x.bytes.length c3, .int .i64 x.n, .slice A5 x.keep.length c5], rfl, rfl, ⟨[.slice A3 x.bytes.length c3], [.int .i64 x.n, .slice A5 x.keep.length c5], rfl, ⟨A3, c3, rfl, l3, g3⟩, ⟨[.int .i64 x.n], [.slice A5 x.keep.length c5], rfl, rfl, ⟨A5, c5, rfl, l5, g5⟩⟩⟩⟩⟩⟩
theorem kAsk_mkM (w : World) (base : Nat) (ok : Nat → Prop) (x : Ask) {v3 : Value} (g3 : kB8.R 5 w base ok v3 x.bytes) {v5 : Value} (g5 : kI64.R 3 w base ok v5 x.keep) : kAsk.M w base ok x [.int .i64 x.kind, .string x.name, .string x.dest, v3, .int .i64 x.n, v5] := ⟨[.int .i64 x.kind], [.string x.name, .string x.dest, v3, .int .i64 x.n, v5], rfl, rfl, ⟨[.string x.name], [.string x.dest, v3, .int .i64 x.n, v5], rfl, rfl, ⟨[.string x.dest], [v3, .int .i64 x.n, v5], rfl, rfl, ⟨[v3], [.int .i64 x.n, v5], rfl, ⟨v3, rfl, g3⟩, ⟨[.int .i64 x.n], [v5], rfl, rfl, ⟨v5, rfl, g5⟩⟩⟩⟩⟩⟩
def rdAsk (xs : List Ask) (i : Nat) : Ask := xs.getD i zAsk
theorem at_Ask {w : World} {A : Option Addr} {n : Nat} {xs : List Ask} (h : Kd.C kAsk w A n xs) (i : Nat) (h1 : i < n) : ∃ ad A3 c3 A5 c5, A = some ad ∧ w.cell? (ad.add (i * 6)) = some (.int .i64 (rdAsk xs i).kind) ∧ w.cell? ⟨(ad.add (i * 6)).block, (ad.add (i * 6)).off + 1, none⟩ = some (.string (rdAsk xs i).name) ∧ w.cell? ⟨(ad.add (i * 6)).block, (ad.add (i * 6)).off + 2, none⟩ = some (.string (rdAsk xs i).dest) ∧ w.cell? ⟨(ad.add (i * 6)).block, (ad.add (i * 6)).off + 3, none⟩ = some (.slice A3 (rdAsk xs i).bytes.length c3) ∧ w.cell? ⟨(ad.add (i * 6)).block, (ad.add (i * 6)).off + 4, none⟩ = some (.int .i64 (rdAsk xs i).n) ∧ w.cell? ⟨(ad.add (i * 6)).block, (ad.add (i * 6)).off + 5, none⟩ = some (.slice A5 (rdAsk xs i).keep.length c5) ∧ (rdAsk xs i).bytes.length ≤ c3 ∧ kB8.C w A3 (rdAsk xs i).bytes.length (rdAsk xs i).bytes ∧ (rdAsk xs i).keep.length ≤ c5 ∧ kI64.C w A5 (rdAsk xs i).keep.length (rdAsk xs i).keep := by
  obtain ⟨ad, c, e, _, hK, hc0⟩ := Kd.C_get h zAsk (i : Int) (by omega) (by omega)
  rw [Int.toNat_natCast] at hK hc0
  have hc : ∀ j u, c[j]? = some u → w.cell? (ad.add (i * 6 + j)) = some u := hc0
  obtain ⟨A3, c3, A5, c5, rfl, l3, g3, l5, g5⟩ := kAsk_open hK
  exact ⟨ad, A3, c3, A5, c5, e, hc 0 _ rfl, by rw [← add_field _ _ 1 (by omega)]; exact hc 1 _ rfl, by rw [← add_field _ _ 2 (by omega)]; exact hc 2 _ rfl, by rw [← add_field _ _ 3 (by omega)]; exact hc 3 _ rfl, by rw [← add_field _ _ 4 (by omega)]; exact hc 4 _ rfl, by rw [← add_field _ _ 5 (by omega)]; exact hc 5 _ rfl, l3, g3, l5, g5⟩

/-! #### pantographref08.F -/
structure RF where
  name : ByteArray
  kept : ByteArray
  loose : ByteArray
def zRF : RF := ⟨(⟨#[]⟩ : ByteArray), (⟨#[]⟩ : ByteArray), (⟨#[]⟩ : ByteArray)⟩
def kRF : Kd RF := Kd.iso (Kd.pair Kd.string (Kd.pair Kd.string Kd.string)) (fun x : RF => (x.name, x.kept, x.loose))
theorem kRF_open {w : World} {x : RF} {cs : List Value} (h : kRF.K w x cs) : cs = [.string x.name, .string x.kept, .string x.loose] := by
  obtain ⟨_, _, rfl, rfl, ⟨_, _, rfl, rfl, rfl⟩⟩ := h
  exact rfl
theorem kRF_openM {w : World} {base : Nat} {ok : Nat → Prop} {x : RF} {cs : List Value} (h : kRF.M w base ok x cs) : cs = [.string x.name, .string x.kept, .string x.loose] := by
  obtain ⟨_, _, rfl, rfl, ⟨_, _, rfl, rfl, rfl⟩⟩ := h
  exact rfl
theorem kRF_mk (w : World) (x : RF)  : kRF.K w x [.string x.name, .string x.kept, .string x.loose] := ⟨[.string x.name], [.string x.kept, .string x.loose], rfl, rfl, ⟨[.string x.kept], [.string x.loose], rfl, rfl, rfl⟩⟩
theorem kRF_mkM (w : World) (base : Nat) (ok : Nat → Prop) (x : RF)  : kRF.M w base ok x [.string x.name, .string x.kept, .string x.loose] := ⟨[.string x.name], [.string x.kept, .string x.loose], rfl, rfl, ⟨[.string x.kept], [.string x.loose], rfl, rfl, rfl⟩⟩
def rdRF (xs : List RF) (i : Nat) : RF := xs.getD i zRF
theorem at_RF {w : World} {A : Option Addr} {n : Nat} {xs : List RF} (h : Kd.C kRF w A n xs) (i : Nat) (h1 : i < n) : ∃ ad, A = some ad ∧ w.cell? (ad.add (i * 3)) = some (.string (rdRF xs i).name) ∧ w.cell? ⟨(ad.add (i * 3)).block, (ad.add (i * 3)).off + 1, none⟩ = some (.string (rdRF xs i).kept) ∧ w.cell? ⟨(ad.add (i * 3)).block, (ad.add (i * 3)).off + 2, none⟩ = some (.string (rdRF xs i).loose) := by
  obtain ⟨ad, c, e, _, hK, hc0⟩ := Kd.C_get h zRF (i : Int) (by omega) (by omega)
  rw [Int.toNat_natCast] at hK hc0
  have hc : ∀ j u, c[j]? = some u → w.cell? (ad.add (i * 3 + j)) = some u := hc0
  obtain rfl := kRF_open hK
  exact ⟨ad, e, hc 0 _ rfl, by rw [← add_field _ _ 1 (by omega)]; exact hc 1 _ rfl, by rw [← add_field _ _ 2 (by omega)]; exact hc 2 _ rfl⟩
end Go.Proofs.Ytbndgnbhmifefaa
