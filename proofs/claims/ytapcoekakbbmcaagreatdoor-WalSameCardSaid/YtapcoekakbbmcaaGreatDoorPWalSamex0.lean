-- PRINTED BY print.sh 35421559b90ae4d0a3588c463048766b98c2df88dd9212a6774a882060cdf62d: not written by this session
import Derived.Test.YtapcoekakbbmcaaGreatDoorProg
import Derived.Below
import Derived.Deep.Draws
import Derived.Deep.AppendLies
import Derived.Maps.AppendAt
import Derived.OwnWalk
import Derived.Laws.BytesArg
import Derived.Laws.MakeOwn
import Derived.Laws.OwnMore
import Derived.Deep.OwnRows
import Derived.Tactics
import Derived.Lib.ConvBytes
import Derived.Laws.Slices
import Derived.WalkKit
import Derived.KernelRfl
import Derived.RowKit3
import Derived.Deep.LoopGhost
import Derived.Deep.QuietTactic
import Derived.BigQuiet
import Derived.WideLaws
import Derived.Deep.DeepCutAuto
import Derived.Deep.CutBlock
import Derived.Deep.RegionHeld3
import Derived.Laws.Rows
import Derived.Lib.AppendStr
import Derived.ArgAppend
import Derived.Laws.IdiomCopy
import Derived.OrdersHeld
import Derived.Laws.BitsLemmas
import Derived.RowKit
import Derived.Test.YtapcoekakbbmcaaGreatDoorWWords
import Derived.Test.YtapcoekakbbmcaaGreatDoorWLast
import Derived.Test.YtapcoekakbbmcaaGreatDoorWTab
import Derived.Test.YtapcoekakbbmcaaGreatDoorWFour
import Derived.Test.YtapcoekakbbmcaaGreatDoorWQPut
import Derived.Test.YtapcoekakbbmcaaGreatDoorWApart
import Derived.Test.YtapcoekakbbmcaaGreatDoorWArr
import Derived.Test.YtapcoekakbbmcaaGreatDoorWZeros
import Derived.Test.YtapcoekakbbmcaaGreatDoorWFoot
import Derived.Test.YtapcoekakbbmcaaGreatDoorWKept
import Derived.Test.YtapcoekakbbmcaaGreatDoorWShare
import Derived.Test.YtapcoekakbbmcaaGreatDoorWN
import Derived.Test.YtapcoekakbbmcaaGreatDoorWFootNe
import Derived.Test.YtapcoekakbbmcaaGreatDoorWAt
import Derived.Test.YtapcoekakbbmcaaGreatDoorWEqStruct
import Derived.Test.YtapcoekakbbmcaaGreatDoorWRepsOne
import Derived.Test.YtapcoekakbbmcaaGreatDoorWInv
import Derived.Test.YtapcoekakbbmcaaGreatDoorWInvWords
import Derived.Test.YtapcoekakbbmcaaGreatDoorWGuard
import Derived.Test.YtapcoekakbbmcaaGreatDoorWNEv
import Derived.Test.YtapcoekakbbmcaaGreatDoorWMore
namespace Go.Proofs.YtapcoekakbbmcaaGreatDoor.PWalSame
open Go.RowKit Go.Proofs.YtapcoekakbbmcaaGreatDoorW.PrintWords Go.Proofs.YtapcoekakbbmcaaGreatDoorW.PrintLast Go.Proofs.YtapcoekakbbmcaaGreatDoorW.PrintMore
attribute [local go_sem] max2_int min2_int max_two min_two max_three min_three max_four min_four   -- for this text's walks alone
set_option linter.unusedVariables false
set_option linter.unusedSimpArgs false



def errW : Option Int → Value
  | none => .nilIface
  | some c => .iface 0 (.int .i64 c)
theorem errW_none : errW none = .nilIface := rfl
theorem errW_some (c : Int) : errW (some c) = .iface 0 (.int .i64 c) := rfl

theorem info3 : (Tryz.prog.info? 3).map (fun i => (i.zero, i.size, i.bytes)) = some (some (.int .i64 0), 1, 8) := by kernel_rfl
theorem info5 : (Tryz.prog.info? 5).map (fun i => (i.zero, i.size, i.bytes)) = some (some (.int .u8 0), 1, 1) := by kernel_rfl
theorem info28 : (Tryz.prog.info? 28).map (fun i => (i.zero, i.size, i.bytes)) = some (some (.agg #[(.string ⟨#[]⟩), (.int .i64 0), (.bool false)]), 3, 32) := by kernel_rfl
-- the values' own types
/-! #### struct type 28 -/
structure S28 where
  f0 : ByteArray
  f1 : Int
  f2 : Bool
def z28 : S28 := ⟨(⟨#[]⟩ : ByteArray), (0 : Int), false⟩
def k28 : Kd S28 := Kd.iso (Kd.pair Kd.string (Kd.pair (Kd.int .i64) Kd.bool)) (fun x : S28 => (x.f0, x.f1, x.f2))
theorem k28_open {w : World} {x : S28} {cs : List Value} (h : k28.K w x cs) : cs = [.string x.f0, .int .i64 x.f1, .bool x.f2] := by
  obtain ⟨_, _, rfl, rfl, ⟨_, _, rfl, rfl, rfl⟩⟩ := h
  exact rfl
theorem k28_openM {w : World} {base : Nat} {ok : Nat → Prop} {x : S28} {cs : List Value} (h : k28.M w base ok x cs) : cs = [.string x.f0, .int .i64 x.f1, .bool x.f2] := by
  obtain ⟨_, _, rfl, rfl, ⟨_, _, rfl, rfl, rfl⟩⟩ := h
  exact rfl
theorem k28_mk (w : World) (x : S28)  : k28.K w x [.string x.f0, .int .i64 x.f1, .bool x.f2] := ⟨[.string x.f0], [.int .i64 x.f1, .bool x.f2], rfl, rfl, ⟨[.int .i64 x.f1], [.bool x.f2], rfl, rfl, rfl⟩⟩
theorem k28_mkM (w : World) (base : Nat) (ok : Nat → Prop) (x : S28)  : k28.M w base ok x [.string x.f0, .int .i64 x.f1, .bool x.f2] := ⟨[.string x.f0], [.int .i64 x.f1, .bool x.f2], rfl, rfl, ⟨[.int .i64 x.f1], [.bool x.f2], rfl, rfl, rfl⟩⟩
theorem k28_mkF (W : World) (ok : Nat → Prop) (x : S28) : Kd.FK k28 W ok x [.string x.f0, .int .i64 x.f1, .bool x.f2] := fun W2 _ => k28_mk W2 x
def rd_T28 (xs : List S28) (i : Int) : S28 := xs.getD i.toNat z28
theorem at_T28 {w : World} {A : Option Addr} {n : Nat} {xs : List S28} (h : Kd.C k28 w A n xs) (i : Int) (h0 : 0 ≤ i) (h1 : i < n) : ∃ ad , A = some ad ∧ w.cell? (ad.add (i.toNat * 3)) = some (.string (rd_T28 xs i).f0) ∧ w.cell? ⟨(ad.add (i.toNat * 3)).block, (ad.add (i.toNat * 3)).off + 1, none⟩ = some (.int .i64 (rd_T28 xs i).f1) ∧ w.cell? ⟨(ad.add (i.toNat * 3)).block, (ad.add (i.toNat * 3)).off + 2, none⟩ = some (.bool (rd_T28 xs i).f2) := by
  obtain ⟨ad, c, e, _, hK, hc0⟩ := Kd.C_get h z28 i h0 h1
  have hc : ∀ j u, c[j]? = some u → w.cell? (ad.add (i.toNat * 3 + j)) = some u := hc0
  obtain rfl := k28_open hK
  exact ⟨ad, e, hc 0 _ rfl, by rw [← add_field _ _ 1 (by omega)]; exact hc 1 _ rfl, by rw [← add_field _ _ 2 (by omega)]; exact hc 2 _ rfl⟩

/-! #### struct type 70 -/
structure S70 where
  f0 : Int
  f1 : Int
  f2 : ByteArray
def z70 : S70 := ⟨(0 : Int), (0 : Int), (⟨#[]⟩ : ByteArray)⟩
def k70 : Kd S70 := Kd.iso (Kd.pair (Kd.int .i64) (Kd.pair (Kd.int .i64) Kd.string)) (fun x : S70 => (x.f0, x.f1, x.f2))
theorem k70_open {w : World} {x : S70} {cs : List Value} (h : k70.K w x cs) : cs = [.int .i64 x.f0, .int .i64 x.f1, .string x.f2] := by
  obtain ⟨_, _, rfl, rfl, ⟨_, _, rfl, rfl, rfl⟩⟩ := h
  exact rfl
theorem k70_openM {w : World} {base : Nat} {ok : Nat → Prop} {x : S70} {cs : List Value} (h : k70.M w base ok x cs) : cs = [.int .i64 x.f0, .int .i64 x.f1, .string x.f2] := by
  obtain ⟨_, _, rfl, rfl, ⟨_, _, rfl, rfl, rfl⟩⟩ := h
  exact rfl
theorem k70_mk (w : World) (x : S70)  : k70.K w x [.int .i64 x.f0, .int .i64 x.f1, .string x.f2] := ⟨[.int .i64 x.f0], [.int .i64 x.f1, .string x.f2], rfl, rfl, ⟨[.int .i64 x.f1], [.string x.f2], rfl, rfl, rfl⟩⟩
theorem k70_mkM (w : World) (base : Nat) (ok : Nat → Prop) (x : S70)  : k70.M w base ok x [.int .i64 x.f0, .int .i64 x.f1, .string x.f2] := ⟨[.int .i64 x.f0], [.int .i64 x.f1, .string x.f2], rfl, rfl, ⟨[.int .i64 x.f1], [.string x.f2], rfl, rfl, rfl⟩⟩
theorem k70_mkF (W : World) (ok : Nat → Prop) (x : S70) : Kd.FK k70 W ok x [.int .i64 x.f0, .int .i64 x.f1, .string x.f2] := fun W2 _ => k70_mk W2 x
def rd_T70 (xs : List S70) (i : Int) : S70 := xs.getD i.toNat z70
theorem at_T70 {w : World} {A : Option Addr} {n : Nat} {xs : List S70} (h : Kd.C k70 w A n xs) (i : Int) (h0 : 0 ≤ i) (h1 : i < n) : ∃ ad , A = some ad ∧ w.cell? (ad.add (i.toNat * 3)) = some (.int .i64 (rd_T70 xs i).f0) ∧ w.cell? ⟨(ad.add (i.toNat * 3)).block, (ad.add (i.toNat * 3)).off + 1, none⟩ = some (.int .i64 (rd_T70 xs i).f1) ∧ w.cell? ⟨(ad.add (i.toNat * 3)).block, (ad.add (i.toNat * 3)).off + 2, none⟩ = some (.string (rd_T70 xs i).f2) := by
  obtain ⟨ad, c, e, _, hK, hc0⟩ := Kd.C_get h z70 i h0 h1
  have hc : ∀ j u, c[j]? = some u → w.cell? (ad.add (i.toNat * 3 + j)) = some u := hc0
  obtain rfl := k70_open hK
  exact ⟨ad, e, hc 0 _ rfl, by rw [← add_field _ _ 1 (by omega)]; exact hc 1 _ rfl, by rw [← add_field _ _ 2 (by omega)]; exact hc 2 _ rfl⟩

def rd_L5 (xs : List (List S70)) (i : Int) : (List S70) := xs.getD i.toNat ([] : List S70)
theorem at_L5 {w : World} {A : Option Addr} {n : Nat} {xs : List (List S70)} (h : Kd.C (Kd.slice 70 k70) w A n xs) (i : Int) (h0 : 0 ≤ i) (h1 : i < n) : ∃ ad A0 c0, A = some ad ∧ w.cell? (ad.add i.toNat) = some (.slice A0 (rd_L5 xs i).length c0) ∧ (rd_L5 xs i).length ≤ c0 ∧ k70.C w A0 (rd_L5 xs i).length (rd_L5 xs i) := by
  obtain ⟨ad, c, e, _, hK, hc0⟩ := Kd.C_get h ([] : List S70) i h0 h1
  have hc : ∀ j u, c[j]? = some u → w.cell? (ad.add (i.toNat * 1 + j)) = some u := hc0
  obtain ⟨A0, c0, rfl, l0, g0⟩ := hK
  exact ⟨ad, A0, c0, e, by have hq := hc 0 _ rfl; rwa [Nat.mul_one, Nat.add_zero] at hq, l0, g0⟩

def rd_L6 (xs : List (List S28)) (i : Int) : (List S28) := xs.getD i.toNat ([] : List S28)
theorem at_L6 {w : World} {A : Option Addr} {n : Nat} {xs : List (List S28)} (h : Kd.C (Kd.slice 28 k28) w A n xs) (i : Int) (h0 : 0 ≤ i) (h1 : i < n) : ∃ ad A0 c0, A = some ad ∧ w.cell? (ad.add i.toNat) = some (.slice A0 (rd_L6 xs i).length c0) ∧ (rd_L6 xs i).length ≤ c0 ∧ k28.C w A0 (rd_L6 xs i).length (rd_L6 xs i) := by
  obtain ⟨ad, c, e, _, hK, hc0⟩ := Kd.C_get h ([] : List S28) i h0 h1
  have hc : ∀ j u, c[j]? = some u → w.cell? (ad.add (i.toNat * 1 + j)) = some u := hc0
  obtain ⟨A0, c0, rfl, l0, g0⟩ := hK
  exact ⟨ad, A0, c0, e, by have hq := hc 0 _ rfl; rwa [Nat.mul_one, Nat.add_zero] at hq, l0, g0⟩

/-! #### struct type 26 -/
structure S26 where
  f0 : (List S28)
  f1 : Int
def z26 : S26 := ⟨([] : List S28), (0 : Int)⟩
def k26 : Kd S26 := Kd.iso (Kd.pair (Kd.slice 28 k28) (Kd.int .i64)) (fun x : S26 => (x.f0, x.f1))
theorem k26_open {w : World} {x : S26} {cs : List Value} (h : k26.K w x cs) : ∃ A0 c0, cs = [.slice A0 x.f0.length c0, .int .i64 x.f1] ∧ x.f0.length ≤ c0 ∧ k28.C w A0 x.f0.length x.f0 := by
  obtain ⟨_, _, rfl, ⟨A0, c0, rfl, l0, g0⟩, rfl⟩ := h
  exact ⟨A0, c0, rfl, l0, g0⟩
theorem k26_openM {w : World} {base : Nat} {ok : Nat → Prop} {x : S26} {cs : List Value} (h : k26.M w base ok x cs) : ∃ v0, cs = [v0, .int .i64 x.f1] ∧ k28.R 28 w base ok v0 x.f0 := by
  obtain ⟨_, _, rfl, ⟨v0, rfl, g0⟩, rfl⟩ := h
  exact ⟨v0, rfl, g0⟩
theorem k26_mk (w : World) (x : S26) {A0 : Option Addr} {c0 : Nat} (l0 : x.f0.length ≤ c0) (g0 : k28.C w A0 x.f0.length x.f0) : k26.K w x [.slice A0 x.f0.length c0, .int .i64 x.f1] := ⟨[.slice A0 x.f0.length c0], [.int .i64 x.f1], rfl, ⟨A0, c0, rfl, l0, g0⟩, rfl⟩
theorem k26_mkM (w : World) (base : Nat) (ok : Nat → Prop) (x : S26) {v0 : Value} (g0 : k28.R 28 w base ok v0 x.f0) : k26.M w base ok x [v0, .int .i64 x.f1] := ⟨[v0], [.int .i64 x.f1], rfl, ⟨v0, rfl, g0⟩, rfl⟩
theorem k26_openF {W : World} {ok : Nat → Prop} {x : S26} {cs : List Value} (h : Kd.FK k26 W ok x cs) : ∃ A0 c0, cs = [.slice A0 x.f0.length c0, .int .i64 x.f1] ∧ x.f0.length ≤ c0 ∧ Kd.F k28 W ok A0 x.f0.length x.f0 := by
  obtain ⟨A0, c0, rfl, l0, _⟩ := k26_open (Kd.FK_now h)
  exact ⟨A0, c0, rfl, l0, (fun W' hW => by obtain ⟨A0_, c0_, he, l0_, g0_⟩ := k26_open (h W' hW); injection (Option.some.inj (show some (Value.slice A0 x.f0.length c0) = some (Value.slice A0_ x.f0.length c0_) from congrArg (fun l => l[0]?) he)) with ha_ _ _; rw [ha_]; exact g0_)⟩
theorem k26_mkF (W : World) (ok : Nat → Prop) (x : S26) {A0 : Option Addr} {c0 : Nat} (l0 : x.f0.length ≤ c0) (g0 : Kd.F k28 W ok A0 x.f0.length x.f0) : Kd.FK k26 W ok x [.slice A0 x.f0.length c0, .int .i64 x.f1] := fun W2 hW => k26_mk W2 x l0 (g0 W2 hW)
def rd_T26 (xs : List S26) (i : Int) : S26 := xs.getD i.toNat z26
theorem at_T26 {w : World} {A : Option Addr} {n : Nat} {xs : List S26} (h : Kd.C k26 w A n xs) (i : Int) (h0 : 0 ≤ i) (h1 : i < n) : ∃ ad A0 c0, A = some ad ∧ w.cell? (ad.add (i.toNat * 2)) = some (.slice A0 (rd_T26 xs i).f0.length c0) ∧ w.cell? ⟨(ad.add (i.toNat * 2)).block, (ad.add (i.toNat * 2)).off + 1, none⟩ = some (.int .i64 (rd_T26 xs i).f1) ∧ (rd_T26 xs i).f0.length ≤ c0 ∧ k28.C w A0 (rd_T26 xs i).f0.length (rd_T26 xs i).f0 := by
  obtain ⟨ad, c, e, _, hK, hc0⟩ := Kd.C_get h z26 i h0 h1
  have hc : ∀ j u, c[j]? = some u → w.cell? (ad.add (i.toNat * 2 + j)) = some u := hc0
  obtain ⟨A0, c0, rfl, l0, g0⟩ := k26_open hK
  exact ⟨ad, A0, c0, e, hc 0 _ rfl, by rw [← add_field _ _ 1 (by omega)]; exact hc 1 _ rfl, l0, g0⟩

/-! #### struct type 30 -/
structure S30 where
  f0 : Int
  f1 : ByteArray
  f2 : S26
  f3 : S28
def z30 : S30 := ⟨(0 : Int), (⟨#[]⟩ : ByteArray), z26, z28⟩
def k30 : Kd S30 := Kd.iso (Kd.pair (Kd.int .i64) (Kd.pair Kd.string (Kd.pair k26 k28))) (fun x : S30 => (x.f0, x.f1, x.f2, x.f3))
theorem k30_open {w : World} {x : S30} {cs : List Value} (h : k30.K w x cs) : ∃ A2 c2, cs = [.int .i64 x.f0, .string x.f1, .slice A2 x.f2.f0.length c2, .int .i64 x.f2.f1, .string x.f3.f0, .int .i64 x.f3.f1, .bool x.f3.f2] ∧ x.f2.f0.length ≤ c2 ∧ k28.C w A2 x.f2.f0.length x.f2.f0 := by
  obtain ⟨_, _, rfl, rfl, ⟨_, _, rfl, rfl, ⟨_, _, rfl, s2, s4⟩⟩⟩ := h
  obtain ⟨A2, c2, rfl, l2, g2⟩ := k26_open s2
  obtain rfl := k28_open s4
  exact ⟨A2, c2, rfl, l2, g2⟩
theorem k30_openM {w : World} {base : Nat} {ok : Nat → Prop} {x : S30} {cs : List Value} (h : k30.M w base ok x cs) : ∃ v2, cs = [.int .i64 x.f0, .string x.f1, v2, .int .i64 x.f2.f1, .string x.f3.f0, .int .i64 x.f3.f1, .bool x.f3.f2] ∧ k28.R 28 w base ok v2 x.f2.f0 := by
  obtain ⟨_, _, rfl, rfl, ⟨_, _, rfl, rfl, ⟨_, _, rfl, s2, s4⟩⟩⟩ := h
  obtain ⟨v2, rfl, g2⟩ := k26_openM s2
  obtain rfl := k28_openM s4
  exact ⟨v2, rfl, g2⟩
theorem k30_mk (w : World) (x : S30) {A2 : Option Addr} {c2 : Nat} (l2 : x.f2.f0.length ≤ c2) (g2 : k28.C w A2 x.f2.f0.length x.f2.f0) : k30.K w x [.int .i64 x.f0, .string x.f1, .slice A2 x.f2.f0.length c2, .int .i64 x.f2.f1, .string x.f3.f0, .int .i64 x.f3.f1, .bool x.f3.f2] := ⟨[.int .i64 x.f0], [.string x.f1, .slice A2 x.f2.f0.length c2, .int .i64 x.f2.f1, .string x.f3.f0, .int .i64 x.f3.f1, .bool x.f3.f2], rfl, rfl, ⟨[.string x.f1], [.slice A2 x.f2.f0.length c2, .int .i64 x.f2.f1, .string x.f3.f0, .int .i64 x.f3.f1, .bool x.f3.f2], rfl, rfl, ⟨[.slice A2 x.f2.f0.length c2, .int .i64 x.f2.f1], [.string x.f3.f0, .int .i64 x.f3.f1, .bool x.f3.f2], rfl, (k26_mk w x.f2 l2 g2), (k28_mk w x.f3 )⟩⟩⟩
theorem k30_mkM (w : World) (base : Nat) (ok : Nat → Prop) (x : S30) {v2 : Value} (g2 : k28.R 28 w base ok v2 x.f2.f0) : k30.M w base ok x [.int .i64 x.f0, .string x.f1, v2, .int .i64 x.f2.f1, .string x.f3.f0, .int .i64 x.f3.f1, .bool x.f3.f2] := ⟨[.int .i64 x.f0], [.string x.f1, v2, .int .i64 x.f2.f1, .string x.f3.f0, .int .i64 x.f3.f1, .bool x.f3.f2], rfl, rfl, ⟨[.string x.f1], [v2, .int .i64 x.f2.f1, .string x.f3.f0, .int .i64 x.f3.f1, .bool x.f3.f2], rfl, rfl, ⟨[v2, .int .i64 x.f2.f1], [.string x.f3.f0, .int .i64 x.f3.f1, .bool x.f3.f2], rfl, (k26_mkM w base ok x.f2 g2), (k28_mkM w base ok x.f3 )⟩⟩⟩
theorem k30_openF {W : World} {ok : Nat → Prop} {x : S30} {cs : List Value} (h : Kd.FK k30 W ok x cs) : ∃ A2 c2, cs = [.int .i64 x.f0, .string x.f1, .slice A2 x.f2.f0.length c2, .int .i64 x.f2.f1, .string x.f3.f0, .int .i64 x.f3.f1, .bool x.f3.f2] ∧ x.f2.f0.length ≤ c2 ∧ Kd.F k28 W ok A2 x.f2.f0.length x.f2.f0 := by
  obtain ⟨A2, c2, rfl, l2, _⟩ := k30_open (Kd.FK_now h)
  exact ⟨A2, c2, rfl, l2, (fun W' hW => by obtain ⟨A2_, c2_, he, l2_, g2_⟩ := k30_open (h W' hW); injection (Option.some.inj (show some (Value.slice A2 x.f2.f0.length c2) = some (Value.slice A2_ x.f2.f0.length c2_) from congrArg (fun l => l[2]?) he)) with ha_ _ _; rw [ha_]; exact g2_)⟩
theorem k30_mkF (W : World) (ok : Nat → Prop) (x : S30) {A2 : Option Addr} {c2 : Nat} (l2 : x.f2.f0.length ≤ c2) (g2 : Kd.F k28 W ok A2 x.f2.f0.length x.f2.f0) : Kd.FK k30 W ok x [.int .i64 x.f0, .string x.f1, .slice A2 x.f2.f0.length c2, .int .i64 x.f2.f1, .string x.f3.f0, .int .i64 x.f3.f1, .bool x.f3.f2] := fun W2 hW => k30_mk W2 x l2 (g2 W2 hW)
def rd_T30 (xs : List S30) (i : Int) : S30 := xs.getD i.toNat z30
theorem at_T30 {w : World} {A : Option Addr} {n : Nat} {xs : List S30} (h : Kd.C k30 w A n xs) (i : Int) (h0 : 0 ≤ i) (h1 : i < n) : ∃ ad A2 c2, A = some ad ∧ w.cell? (ad.add (i.toNat * 7)) = some (.int .i64 (rd_T30 xs i).f0) ∧ w.cell? ⟨(ad.add (i.toNat * 7)).block, (ad.add (i.toNat * 7)).off + 1, none⟩ = some (.string (rd_T30 xs i).f1) ∧ w.cell? ⟨(ad.add (i.toNat * 7)).block, (ad.add (i.toNat * 7)).off + 2, none⟩ = some (.slice A2 (rd_T30 xs i).f2.f0.length c2) ∧ w.cell? ⟨(ad.add (i.toNat * 7)).block, (ad.add (i.toNat * 7)).off + 3, none⟩ = some (.int .i64 (rd_T30 xs i).f2.f1) ∧ w.cell? ⟨(ad.add (i.toNat * 7)).block, (ad.add (i.toNat * 7)).off + 4, none⟩ = some (.string (rd_T30 xs i).f3.f0) ∧ w.cell? ⟨(ad.add (i.toNat * 7)).block, (ad.add (i.toNat * 7)).off + 5, none⟩ = some (.int .i64 (rd_T30 xs i).f3.f1) ∧ w.cell? ⟨(ad.add (i.toNat * 7)).block, (ad.add (i.toNat * 7)).off + 6, none⟩ = some (.bool (rd_T30 xs i).f3.f2) ∧ (rd_T30 xs i).f2.f0.length ≤ c2 ∧ k28.C w A2 (rd_T30 xs i).f2.f0.length (rd_T30 xs i).f2.f0 := by
  obtain ⟨ad, c, e, _, hK, hc0⟩ := Kd.C_get h z30 i h0 h1
  have hc : ∀ j u, c[j]? = some u → w.cell? (ad.add (i.toNat * 7 + j)) = some u := hc0
  obtain ⟨A2, c2, rfl, l2, g2⟩ := k30_open hK
  exact ⟨ad, A2, c2, e, hc 0 _ rfl, by rw [← add_field _ _ 1 (by omega)]; exact hc 1 _ rfl, by rw [← add_field _ _ 2 (by omega)]; exact hc 2 _ rfl, by rw [← add_field _ _ 3 (by omega)]; exact hc 3 _ rfl, by rw [← add_field _ _ 4 (by omega)]; exact hc 4 _ rfl, by rw [← add_field _ _ 5 (by omega)]; exact hc 5 _ rfl, by rw [← add_field _ _ 6 (by omega)]; exact hc 6 _ rfl, l2, g2⟩

/-! #### struct type 35 -/
structure S35 where
  f0 : Int
  f1 : ByteArray
  f2 : (List S70)
  f3 : S30
def z35 : S35 := ⟨(0 : Int), (⟨#[]⟩ : ByteArray), ([] : List S70), z30⟩
def k35 : Kd S35 := Kd.iso (Kd.pair (Kd.int .i64) (Kd.pair Kd.string (Kd.pair (Kd.slice 70 k70) k30))) (fun x : S35 => (x.f0, x.f1, x.f2, x.f3))
theorem k35_open {w : World} {x : S35} {cs : List Value} (h : k35.K w x cs) : ∃ A2 c2 A5 c5, cs = [.int .i64 x.f0, .string x.f1, .slice A2 x.f2.length c2, .int .i64 x.f3.f0, .string x.f3.f1, .slice A5 x.f3.f2.f0.length c5, .int .i64 x.f3.f2.f1, .string x.f3.f3.f0, .int .i64 x.f3.f3.f1, .bool x.f3.f3.f2] ∧ x.f2.length ≤ c2 ∧ k70.C w A2 x.f2.length x.f2 ∧ x.f3.f2.f0.length ≤ c5 ∧ k28.C w A5 x.f3.f2.f0.length x.f3.f2.f0 := by
  obtain ⟨_, _, rfl, rfl, ⟨_, _, rfl, rfl, ⟨_, _, rfl, ⟨A2, c2, rfl, l2, g2⟩, s3⟩⟩⟩ := h
  obtain ⟨A5, c5, rfl, l5, g5⟩ := k30_open s3
  exact ⟨A2, c2, A5, c5, rfl, l2, g2, l5, g5⟩
theorem k35_openM {w : World} {base : Nat} {ok : Nat → Prop} {x : S35} {cs : List Value} (h : k35.M w base ok x cs) : ∃ v2 v5, cs = [.int .i64 x.f0, .string x.f1, v2, .int .i64 x.f3.f0, .string x.f3.f1, v5, .int .i64 x.f3.f2.f1, .string x.f3.f3.f0, .int .i64 x.f3.f3.f1, .bool x.f3.f3.f2] ∧ k70.R 70 w base ok v2 x.f2 ∧ k28.R 28 w base ok v5 x.f3.f2.f0 := by
  obtain ⟨_, _, rfl, rfl, ⟨_, _, rfl, rfl, ⟨_, _, rfl, ⟨v2, rfl, g2⟩, s3⟩⟩⟩ := h
  obtain ⟨v5, rfl, g5⟩ := k30_openM s3
  exact ⟨v2, v5, rfl, g2, g5⟩
theorem k35_mk (w : World) (x : S35) {A2 : Option Addr} {c2 : Nat} (l2 : x.f2.length ≤ c2) (g2 : k70.C w A2 x.f2.length x.f2) {A5 : Option Addr} {c5 : Nat} (l5 : x.f3.f2.f0.length ≤ c5) (g5 : k28.C w A5 x.f3.f2.f0.length x.f3.f2.f0) : k35.K w x [.int .i64 x.f0, .string x.f1, .slice A2 x.f2.length c2, .int .i64 x.f3.f0, .string x.f3.f1, .slice A5 x.f3.f2.f0.length c5, .int .i64 x.f3.f2.f1, .string x.f3.f3.f0, .int .i64 x.f3.f3.f1, .bool x.f3.f3.f2] := ⟨[.int .i64 x.f0], [.string x.f1, .slice A2 x.f2.length c2, .int .i64 x.f3.f0, .string x.f3.f1, .slice A5 x.f3.f2.f0.length c5, .int .i64 x.f3.f2.f1, .string x.f3.f3.f0, .int .i64 x.f3.f3.f1, .bool x.f3.f3.f2], rfl, rfl, ⟨[.string x.f1], [.slice A2 x.f2.length c2, .int .i64 x.f3.f0, .string x.f3.f1, .slice A5 x.f3.f2.f0.length c5, .int .i64 x.f3.f2.f1, .string x.f3.f3.f0, .int .i64 x.f3.f3.f1, .bool x.f3.f3.f2], rfl, rfl, ⟨[.slice A2 x.f2.length c2], [.int .i64 x.f3.f0, .string x.f3.f1, .slice A5 x.f3.f2.f0.length c5, .int .i64 x.f3.f2.f1, .string x.f3.f3.f0, .int .i64 x.f3.f3.f1, .bool x.f3.f3.f2], rfl, ⟨A2, c2, rfl, l2, g2⟩, (k30_mk w x.f3 l5 g5)⟩⟩⟩
theorem k35_mkM (w : World) (base : Nat) (ok : Nat → Prop) (x : S35) {v2 : Value} (g2 : k70.R 70 w base ok v2 x.f2) {v5 : Value} (g5 : k28.R 28 w base ok v5 x.f3.f2.f0) : k35.M w base ok x [.int .i64 x.f0, .string x.f1, v2, .int .i64 x.f3.f0, .string x.f3.f1, v5, .int .i64 x.f3.f2.f1, .string x.f3.f3.f0, .int .i64 x.f3.f3.f1, .bool x.f3.f3.f2] := ⟨[.int .i64 x.f0], [.string x.f1, v2, .int .i64 x.f3.f0, .string x.f3.f1, v5, .int .i64 x.f3.f2.f1, .string x.f3.f3.f0, .int .i64 x.f3.f3.f1, .bool x.f3.f3.f2], rfl, rfl, ⟨[.string x.f1], [v2, .int .i64 x.f3.f0, .string x.f3.f1, v5, .int .i64 x.f3.f2.f1, .string x.f3.f3.f0, .int .i64 x.f3.f3.f1, .bool x.f3.f3.f2], rfl, rfl, ⟨[v2], [.int .i64 x.f3.f0, .string x.f3.f1, v5, .int .i64 x.f3.f2.f1, .string x.f3.f3.f0, .int .i64 x.f3.f3.f1, .bool x.f3.f3.f2], rfl, ⟨v2, rfl, g2⟩, (k30_mkM w base ok x.f3 g5)⟩⟩⟩
theorem k35_openF {W : World} {ok : Nat → Prop} {x : S35} {cs : List Value} (h : Kd.FK k35 W ok x cs) : ∃ A2 c2 A5 c5, cs = [.int .i64 x.f0, .string x.f1, .slice A2 x.f2.length c2, .int .i64 x.f3.f0, .string x.f3.f1, .slice A5 x.f3.f2.f0.length c5, .int .i64 x.f3.f2.f1, .string x.f3.f3.f0, .int .i64 x.f3.f3.f1, .bool x.f3.f3.f2] ∧ x.f2.length ≤ c2 ∧ Kd.F k70 W ok A2 x.f2.length x.f2 ∧ x.f3.f2.f0.length ≤ c5 ∧ Kd.F k28 W ok A5 x.f3.f2.f0.length x.f3.f2.f0 := by
  obtain ⟨A2, c2, A5, c5, rfl, l2, _, l5, _⟩ := k35_open (Kd.FK_now h)
  exact ⟨A2, c2, A5, c5, rfl, l2, (fun W' hW => by obtain ⟨A2_, c2_, A5_, c5_, he, l2_, g2_, l5_, g5_⟩ := k35_open (h W' hW); injection (Option.some.inj (show some (Value.slice A2 x.f2.length c2) = some (Value.slice A2_ x.f2.length c2_) from congrArg (fun l => l[2]?) he)) with ha_ _ _; rw [ha_]; exact g2_), l5, (fun W' hW => by obtain ⟨A2_, c2_, A5_, c5_, he, l2_, g2_, l5_, g5_⟩ := k35_open (h W' hW); injection (Option.some.inj (show some (Value.slice A5 x.f3.f2.f0.length c5) = some (Value.slice A5_ x.f3.f2.f0.length c5_) from congrArg (fun l => l[5]?) he)) with ha_ _ _; rw [ha_]; exact g5_)⟩
theorem k35_mkF (W : World) (ok : Nat → Prop) (x : S35) {A2 : Option Addr} {c2 : Nat} (l2 : x.f2.length ≤ c2) (g2 : Kd.F k70 W ok A2 x.f2.length x.f2) {A5 : Option Addr} {c5 : Nat} (l5 : x.f3.f2.f0.length ≤ c5) (g5 : Kd.F k28 W ok A5 x.f3.f2.f0.length x.f3.f2.f0) : Kd.FK k35 W ok x [.int .i64 x.f0, .string x.f1, .slice A2 x.f2.length c2, .int .i64 x.f3.f0, .string x.f3.f1, .slice A5 x.f3.f2.f0.length c5, .int .i64 x.f3.f2.f1, .string x.f3.f3.f0, .int .i64 x.f3.f3.f1, .bool x.f3.f3.f2] := fun W2 hW => k35_mk W2 x l2 (g2 W2 hW) l5 (g5 W2 hW)
def rd_T35 (xs : List S35) (i : Int) : S35 := xs.getD i.toNat z35
theorem at_T35 {w : World} {A : Option Addr} {n : Nat} {xs : List S35} (h : Kd.C k35 w A n xs) (i : Int) (h0 : 0 ≤ i) (h1 : i < n) : ∃ ad A2 c2 A5 c5, A = some ad ∧ w.cell? (ad.add (i.toNat * 10)) = some (.int .i64 (rd_T35 xs i).f0) ∧ w.cell? ⟨(ad.add (i.toNat * 10)).block, (ad.add (i.toNat * 10)).off + 1, none⟩ = some (.string (rd_T35 xs i).f1) ∧ w.cell? ⟨(ad.add (i.toNat * 10)).block, (ad.add (i.toNat * 10)).off + 2, none⟩ = some (.slice A2 (rd_T35 xs i).f2.length c2) ∧ w.cell? ⟨(ad.add (i.toNat * 10)).block, (ad.add (i.toNat * 10)).off + 3, none⟩ = some (.int .i64 (rd_T35 xs i).f3.f0) ∧ w.cell? ⟨(ad.add (i.toNat * 10)).block, (ad.add (i.toNat * 10)).off + 4, none⟩ = some (.string (rd_T35 xs i).f3.f1) ∧ w.cell? ⟨(ad.add (i.toNat * 10)).block, (ad.add (i.toNat * 10)).off + 5, none⟩ = some (.slice A5 (rd_T35 xs i).f3.f2.f0.length c5) ∧ w.cell? ⟨(ad.add (i.toNat * 10)).block, (ad.add (i.toNat * 10)).off + 6, none⟩ = some (.int .i64 (rd_T35 xs i).f3.f2.f1) ∧ w.cell? ⟨(ad.add (i.toNat * 10)).block, (ad.add (i.toNat * 10)).off + 7, none⟩ = some (.string (rd_T35 xs i).f3.f3.f0) ∧ w.cell? ⟨(ad.add (i.toNat * 10)).block, (ad.add (i.toNat * 10)).off + 8, none⟩ = some (.int .i64 (rd_T35 xs i).f3.f3.f1) ∧ w.cell? ⟨(ad.add (i.toNat * 10)).block, (ad.add (i.toNat * 10)).off + 9, none⟩ = some (.bool (rd_T35 xs i).f3.f3.f2) ∧ (rd_T35 xs i).f2.length ≤ c2 ∧ k70.C w A2 (rd_T35 xs i).f2.length (rd_T35 xs i).f2 ∧ (rd_T35 xs i).f3.f2.f0.length ≤ c5 ∧ k28.C w A5 (rd_T35 xs i).f3.f2.f0.length (rd_T35 xs i).f3.f2.f0 := by
  obtain ⟨ad, c, e, _, hK, hc0⟩ := Kd.C_get h z35 i h0 h1
  have hc : ∀ j u, c[j]? = some u → w.cell? (ad.add (i.toNat * 10 + j)) = some u := hc0
  obtain ⟨A2, c2, A5, c5, rfl, l2, g2, l5, g5⟩ := k35_open hK
  exact ⟨ad, A2, c2, A5, c5, e, hc 0 _ rfl, by rw [← add_field _ _ 1 (by omega)]; exact hc 1 _ rfl, by rw [← add_field _ _ 2 (by omega)]; exact hc 2 _ rfl, by rw [← add_field _ _ 3 (by omega)]; exact hc 3 _ rfl, by rw [← add_field _ _ 4 (by omega)]; exact hc 4 _ rfl, by rw [← add_field _ _ 5 (by omega)]; exact hc 5 _ rfl, by rw [← add_field _ _ 6 (by omega)]; exact hc 6 _ rfl, by rw [← add_field _ _ 7 (by omega)]; exact hc 7 _ rfl, by rw [← add_field _ _ 8 (by omega)]; exact hc 8 _ rfl, by rw [← add_field _ _ 9 (by omega)]; exact hc 9 _ rfl, l2, g2, l5, g5⟩

/-! #### struct type 75 -/
structure S75 where
  f0 : ByteArray
  f1 : S26
def z75 : S75 := ⟨(⟨#[]⟩ : ByteArray), z26⟩
def k75 : Kd S75 := Kd.iso (Kd.pair Kd.string k26) (fun x : S75 => (x.f0, x.f1))
theorem k75_open {w : World} {x : S75} {cs : List Value} (h : k75.K w x cs) : ∃ A1 c1, cs = [.string x.f0, .slice A1 x.f1.f0.length c1, .int .i64 x.f1.f1] ∧ x.f1.f0.length ≤ c1 ∧ k28.C w A1 x.f1.f0.length x.f1.f0 := by
  obtain ⟨_, _, rfl, rfl, s1⟩ := h
  obtain ⟨A1, c1, rfl, l1, g1⟩ := k26_open s1
  exact ⟨A1, c1, rfl, l1, g1⟩
theorem k75_openM {w : World} {base : Nat} {ok : Nat → Prop} {x : S75} {cs : List Value} (h : k75.M w base ok x cs) : ∃ v1, cs = [.string x.f0, v1, .int .i64 x.f1.f1] ∧ k28.R 28 w base ok v1 x.f1.f0 := by
  obtain ⟨_, _, rfl, rfl, s1⟩ := h
  obtain ⟨v1, rfl, g1⟩ := k26_openM s1
  exact ⟨v1, rfl, g1⟩
theorem k75_mk (w : World) (x : S75) {A1 : Option Addr} {c1 : Nat} (l1 : x.f1.f0.length ≤ c1) (g1 : k28.C w A1 x.f1.f0.length x.f1.f0) : k75.K w x [.string x.f0, .slice A1 x.f1.f0.length c1, .int .i64 x.f1.f1] := ⟨[.string x.f0], [.slice A1 x.f1.f0.length c1, .int .i64 x.f1.f1], rfl, rfl, (k26_mk w x.f1 l1 g1)⟩
theorem k75_mkM (w : World) (base : Nat) (ok : Nat → Prop) (x : S75) {v1 : Value} (g1 : k28.R 28 w base ok v1 x.f1.f0) : k75.M w base ok x [.string x.f0, v1, .int .i64 x.f1.f1] := ⟨[.string x.f0], [v1, .int .i64 x.f1.f1], rfl, rfl, (k26_mkM w base ok x.f1 g1)⟩
theorem k75_openF {W : World} {ok : Nat → Prop} {x : S75} {cs : List Value} (h : Kd.FK k75 W ok x cs) : ∃ A1 c1, cs = [.string x.f0, .slice A1 x.f1.f0.length c1, .int .i64 x.f1.f1] ∧ x.f1.f0.length ≤ c1 ∧ Kd.F k28 W ok A1 x.f1.f0.length x.f1.f0 := by
  obtain ⟨A1, c1, rfl, l1, _⟩ := k75_open (Kd.FK_now h)
  exact ⟨A1, c1, rfl, l1, (fun W' hW => by obtain ⟨A1_, c1_, he, l1_, g1_⟩ := k75_open (h W' hW); injection (Option.some.inj (show some (Value.slice A1 x.f1.f0.length c1) = some (Value.slice A1_ x.f1.f0.length c1_) from congrArg (fun l => l[1]?) he)) with ha_ _ _; rw [ha_]; exact g1_)⟩
theorem k75_mkF (W : World) (ok : Nat → Prop) (x : S75) {A1 : Option Addr} {c1 : Nat} (l1 : x.f1.f0.length ≤ c1) (g1 : Kd.F k28 W ok A1 x.f1.f0.length x.f1.f0) : Kd.FK k75 W ok x [.string x.f0, .slice A1 x.f1.f0.length c1, .int .i64 x.f1.f1] := fun W2 hW => k75_mk W2 x l1 (g1 W2 hW)
def rd_T75 (xs : List S75) (i : Int) : S75 := xs.getD i.toNat z75
theorem at_T75 {w : World} {A : Option Addr} {n : Nat} {xs : List S75} (h : Kd.C k75 w A n xs) (i : Int) (h0 : 0 ≤ i) (h1 : i < n) : ∃ ad A1 c1, A = some ad ∧ w.cell? (ad.add (i.toNat * 3)) = some (.string (rd_T75 xs i).f0) ∧ w.cell? ⟨(ad.add (i.toNat * 3)).block, (ad.add (i.toNat * 3)).off + 1, none⟩ = some (.slice A1 (rd_T75 xs i).f1.f0.length c1) ∧ w.cell? ⟨(ad.add (i.toNat * 3)).block, (ad.add (i.toNat * 3)).off + 2, none⟩ = some (.int .i64 (rd_T75 xs i).f1.f1) ∧ (rd_T75 xs i).f1.f0.length ≤ c1 ∧ k28.C w A1 (rd_T75 xs i).f1.f0.length (rd_T75 xs i).f1.f0 := by
  obtain ⟨ad, c, e, _, hK, hc0⟩ := Kd.C_get h z75 i h0 h1
  have hc : ∀ j u, c[j]? = some u → w.cell? (ad.add (i.toNat * 3 + j)) = some u := hc0
  obtain ⟨A1, c1, rfl, l1, g1⟩ := k75_open hK
  exact ⟨ad, A1, c1, e, hc 0 _ rfl, by rw [← add_field _ _ 1 (by omega)]; exact hc 1 _ rfl, by rw [← add_field _ _ 2 (by omega)]; exact hc 2 _ rfl, l1, g1⟩

/-! #### struct type 106 -/
structure S106 where
  f0 : ByteArray
  f1 : Bool
  f2 : ByteArray
def z106 : S106 := ⟨(⟨#[]⟩ : ByteArray), false, (⟨#[]⟩ : ByteArray)⟩
def k106 : Kd S106 := Kd.iso (Kd.pair Kd.string (Kd.pair Kd.bool Kd.string)) (fun x : S106 => (x.f0, x.f1, x.f2))
theorem k106_open {w : World} {x : S106} {cs : List Value} (h : k106.K w x cs) : cs = [.string x.f0, .bool x.f1, .string x.f2] := by
  obtain ⟨_, _, rfl, rfl, ⟨_, _, rfl, rfl, rfl⟩⟩ := h
  exact rfl
theorem k106_openM {w : World} {base : Nat} {ok : Nat → Prop} {x : S106} {cs : List Value} (h : k106.M w base ok x cs) : cs = [.string x.f0, .bool x.f1, .string x.f2] := by
  obtain ⟨_, _, rfl, rfl, ⟨_, _, rfl, rfl, rfl⟩⟩ := h
  exact rfl
theorem k106_mk (w : World) (x : S106)  : k106.K w x [.string x.f0, .bool x.f1, .string x.f2] := ⟨[.string x.f0], [.bool x.f1, .string x.f2], rfl, rfl, ⟨[.bool x.f1], [.string x.f2], rfl, rfl, rfl⟩⟩
theorem k106_mkM (w : World) (base : Nat) (ok : Nat → Prop) (x : S106)  : k106.M w base ok x [.string x.f0, .bool x.f1, .string x.f2] := ⟨[.string x.f0], [.bool x.f1, .string x.f2], rfl, rfl, ⟨[.bool x.f1], [.string x.f2], rfl, rfl, rfl⟩⟩
theorem k106_mkF (W : World) (ok : Nat → Prop) (x : S106) : Kd.FK k106 W ok x [.string x.f0, .bool x.f1, .string x.f2] := fun W2 _ => k106_mk W2 x
def rd_T106 (xs : List S106) (i : Int) : S106 := xs.getD i.toNat z106
theorem at_T106 {w : World} {A : Option Addr} {n : Nat} {xs : List S106} (h : Kd.C k106 w A n xs) (i : Int) (h0 : 0 ≤ i) (h1 : i < n) : ∃ ad , A = some ad ∧ w.cell? (ad.add (i.toNat * 3)) = some (.string (rd_T106 xs i).f0) ∧ w.cell? ⟨(ad.add (i.toNat * 3)).block, (ad.add (i.toNat * 3)).off + 1, none⟩ = some (.bool (rd_T106 xs i).f1) ∧ w.cell? ⟨(ad.add (i.toNat * 3)).block, (ad.add (i.toNat * 3)).off + 2, none⟩ = some (.string (rd_T106 xs i).f2) := by
  obtain ⟨ad, c, e, _, hK, hc0⟩ := Kd.C_get h z106 i h0 h1
  have hc : ∀ j u, c[j]? = some u → w.cell? (ad.add (i.toNat * 3 + j)) = some u := hc0
  obtain rfl := k106_open hK
  exact ⟨ad, e, hc 0 _ rfl, by rw [← add_field _ _ 1 (by omega)]; exact hc 1 _ rfl, by rw [← add_field _ _ 2 (by omega)]; exact hc 2 _ rfl⟩

def rd_L13 (xs : List (List Int)) (i : Int) : (List Int) := xs.getD i.toNat ([] : List Int)
theorem at_L13 {w : World} {A : Option Addr} {n : Nat} {xs : List (List Int)} (h : Kd.C (Kd.slice 5 (Kd.int .u8)) w A n xs) (i : Int) (h0 : 0 ≤ i) (h1 : i < n) : ∃ ad A0 c0, A = some ad ∧ w.cell? (ad.add i.toNat) = some (.slice A0 (rd_L13 xs i).length c0) ∧ (rd_L13 xs i).length ≤ c0 ∧ (Kd.int .u8).C w A0 (rd_L13 xs i).length (rd_L13 xs i) := by
  obtain ⟨ad, c, e, _, hK, hc0⟩ := Kd.C_get h ([] : List Int) i h0 h1
  have hc : ∀ j u, c[j]? = some u → w.cell? (ad.add (i.toNat * 1 + j)) = some u := hc0
  obtain ⟨A0, c0, rfl, l0, g0⟩ := hK
  exact ⟨ad, A0, c0, e, by have hq := hc 0 _ rfl; rwa [Nat.mul_one, Nat.add_zero] at hq, l0, g0⟩

end Go.Proofs.YtapcoekakbbmcaaGreatDoor.PWalSame
