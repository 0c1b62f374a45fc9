/- The law WalSame comes to true for every two lists of writes. -/
import Derived.Test.YtapcoekakbbmcaaGreatDoorWalFew
import Derived.Test.YtapcoekakbbmcaaGreatDoorWalSameW
import Derived.Test.YtapcoekakbbmcaaGreatDoorWalLives
import Derived.Test.YtapcoekakbbmcaaGreatDoorEvOpen
namespace Go.Proofs.YtapcoekakbbmcaaGreatDoor
open Go.RowKit Go.Proofs.YtapcoekakbbmcaaGreatDoorW.PrintWords
set_option linter.unusedVariables false
set_option linter.unusedSimpArgs false
def wriOk (x : Wri) : Prop := fits64 x.kind ∧ x.table.size ≤ reachBytes ∧ rowOk x.row ∧ chgOk x.change
def wrisOk (l : List Wri) : Prop := (∀ a ∈ l, wriOk a) ∧ l.length * 136 ≤ reachBytes
theorem rd_Wri : Reads Tryz.prog 35 kWri wriOk :=
  Reads.iso (Reads.struct Tryz.underlying35 (by kernel_rfl) (ReadsAt.cons (i := 0) rfl rd_int rfl (ReadsAt.cons (i := 1) rfl rd_str rfl (ReadsAt.cons (i := 2) rfl rd_row rfl (ReadsAt.last (i := 3) rfl rd_Chg))))) (fun x : Wri => (x.kind, x.table, x.row, x.change)) (fun p => ⟨p.1, p.2.1, p.2.2.1, p.2.2.2⟩) (fun _ => rfl)
theorem rd_wris : Reads Tryz.prog 39 (Kd.slice 35 kWri) wrisOk := Reads.slice Tryz.underlying39 (by kernel_rfl) (by kernel_rfl) rd_Wri
set_option maxRecDepth 100000 in
set_option maxHeartbeats 8000000 in
theorem walsame_row (w : World) (A : Option Addr) (c : Nat) (l : List Wri) (hA : kWri.C w A l.length l) (hc : l.length ≤ c) (ho : wrisOk l) (B : Option Addr) (d : Nat) (m : List Wri) (hB : kWri.C w B m.length m) (hd : m.length ≤ d) (ho2 : wrisOk m) :
    Calls Tryz.prog 8 #[.slice A l.length c, .slice B m.length d] w fun e w' => e = .returned (.bool true) ∧ Below w.heap.size w w' := by
  clear ho ho2
  have P1 := Aside0.mk (few_calls A c l w hA)
  have P2 := Aside0.mk (fun W (h : Below w.heap.size w W) => few_calls B d m W (Kd.C_below hB h))
  clear hA hB hc hd
  generalize fewL l = xs at *
  generalize fewL m = ys at *
  go_enter Tryz.func8, Tryz.ntmps8
  go_upto_region 2 with (go_at_call 22; refine P1.out.mono ?_; rintro e w1 ⟨A1, c1, rfl, l1, g1, b1⟩)
  have HB1 := Aside0.mk b1
  have HG1 := Aside0.mk g1
  clear b1 g1
  go_upto_region 3 with (go_at_call 22; refine (P2.out _ HB1.out).mono ?_; rintro e w2 ⟨A2, c2, rfl, l2, g2, b2⟩)
  have HS := Aside0.mk (fun W (h : Below w2.heap.size w2 W) => wal_same A1 A2 c1 c2 xs ys W (Kd.C_below (Kd.C_below HG1.out b2) h) (Kd.C_below g2 h) l1 l2)
  have HT := Aside0.mk (fun W (h : Below w2.heap.size w2 W) => same14x A1 A2 c1 c2 xs ys W (Kd.C_below (Kd.C_below HG1.out b2) h) (Kd.C_below g2 h) l1 l2)
  have HU := Aside0.mk (fun W (h : Below w2.heap.size w2 W) => wal_same A1 A1 c1 c1 xs xs W (Kd.C_below (Kd.C_below HG1.out b2) h) (Kd.C_below (Kd.C_below HG1.out b2) h) l1 l1)
  rw [eqs_refl eqW eqW_refl] at HU
  have HB2 := Aside0.mk (HB1.out.trans (b2.mono HB1.out.size))
  clear b2 g2 l1 l2
  generalize eqs eqW xs ys = z at *
  go_wp2_with (first
    | (go_at_call 28; refine (HS.out w2 (Below.refl _ _)).mono ?_; rintro e w3 ⟨rfl, hb3⟩)
    | (go_at_call 13; refine (HT.out w3 hb3).mono ?_; rintro e w4 ⟨rfl, hb4⟩; have hb34 := hb3.trans (hb4.mono hb3.size))
    | (go_at_call 28; refine (HU.out w4 hb34).mono ?_; rintro e w5 ⟨rfl, hb5⟩; have hb35 := hb34.trans (hb5.mono hb34.size))
    | (go_at_call 14; refine (lives_calls w5).mono ?_; rintro e w6 ⟨rfl, hb6⟩; have hb36 := hb35.trans (hb6.mono hb35.size)))
  go_ret
  exact ⟨rfl, HB2.out.trans (hb36.mono HB2.out.size)⟩
end Go.Proofs.YtapcoekakbbmcaaGreatDoor
