/- The law DiskRenames comes to true for every two texts. Conditions: the texts read so. -/
import Derived.Test.YtbndgnbhmifefaaDkHas
namespace Go.Proofs.Ytbndgnbhmifefaa
open Go.RowKit Go.Proofs.YtbndgnbhmifefaaW.PrintWords Go.Proofs.YtbndgnbhmifefaaW.PrintMore
set_option linter.unusedVariables false
set_option linter.unusedSimpArgs false
section
variable {O : Nat → Prop} {w0 : World} {g M : Nat} {r : Int} {L : DList}
theorem create_c {s : ByteArray} (hg : Good s) (w : World) (h : Has O w0 w g M ⟨r, -1, false, L⟩) (hL : hasL L s = false) (hE : L.length ≤ 1000) :
    Calls Try.prog 11 #[.pointer (some ⟨g, 0, none⟩), .string s] w fun x w' => x = .returned (.int .i64 0) ∧ Has O w0 w' g M ⟨r, -1, false, (s, ⟨[], 0⟩) :: L⟩ := by
  have hm : mayS ⟨r, -1, false, L⟩ false [s] = 0 := by simp [mayS, mayN, badB, rdS, hg.yes, hL]
  have := create_h hg.ok hg.size w h (by simp only; omega) (show (-1 : Int) ≤ 9223372036854775807 by decide)
  rw [hm] at this
  exact this
theorem app_c {s : ByteArray} (hg : Good s) (B : Option Addr) (n cb : Nat) (bs : List Int) (w : World) (h : Has O w0 w g M ⟨r, -1, false, L⟩) (hL : hasL L s = true) (hnl : n = bs.length) (hC : Kd.C kByt w B bs.length bs) (hcb : bs.length ≤ cb) (hr : r ≤ 1000) (ht : (totalL L : Int) + bs.length ≤ r) :
    Calls Try.prog 12 #[.pointer (some ⟨g, 0, none⟩), .string s, .slice B n cb] w fun x w' => x = .returned (.int .i64 0) ∧ Has O w0 w' g M ⟨r, -1, false, updL L s ⟨(getL L s).bytes ++ bs, (getL L s).kept⟩⟩ := by
  have hm : mayS ⟨r, -1, false, L⟩ true [s] = 0 := by simp [mayS, mayN, badB, rdS, hg.yes, hL]
  have := app_h hg.ok hg.size B n cb bs w h hnl hC hcb (by omega) (by simp only; omega) (by simp only; omega) (by simp only; omega) (show (-1 : Int) ≤ 9223372036854775807 by decide)
  unfold appN' appS at this
  rw [hm] at this
  simp only [if_true] at this
  rw [if_neg (by omega), if_neg (by omega)] at this
  exact this
theorem rename_c {s t : ByteArray} (hg : Good s) (hgt : Good t) (w : World) (h : Has O w0 w g M ⟨r, -1, false, L⟩) (hL : hasL L s = true) (hE : L.length ≤ 1000) :
    Calls Try.prog 20 #[.pointer (some ⟨g, 0, none⟩), .string s, .string t] w fun x w' => x = .returned (.int .i64 0) ∧ Has O w0 w' g M ⟨r, -1, false, (t, getL L s) :: delL (delL L s) t⟩ := by
  have hm : mayS ⟨r, -1, false, L⟩ true [s, t] = 0 := by simp [mayS, mayN, badB, rdS, hg.yes, hgt.yes, hL]
  have := rename_h hg.ok hg.size hgt.ok hgt.size w h (by simp only; omega) (show (-1 : Int) ≤ 9223372036854775807 by decide)
  rw [hm] at this
  exact this
theorem read_c {s : ByteArray} (hg : Good s) (w : World) (h : Has O w0 w g M ⟨r, -1, false, L⟩) (hL : hasL L s = true) (ht : totalL L ≤ 1000000) :
    Calls Try.prog 13 #[.pointer (some ⟨g, 0, none⟩), .string s] w fun x w' => Has O w0 w' g M ⟨r, -1, false, L⟩ ∧ ReadTell w (getL L s).bytes x w' :=
  read_h hg.ok hg.size w h (by simp [mayS, mayN, badB, rdS, hg.yes, hL]) ht
theorem read_c0 {s : ByteArray} (hg : Good s) (w : World) (h : Has O w0 w g M ⟨r, -1, false, L⟩) (hL : hasL L s = false) :
    Calls Try.prog 13 #[.pointer (some ⟨g, 0, none⟩), .string s] w fun x w' => x = .returned (.tuple #[.slice none 0 0, .int .i64 7]) ∧ Has O w0 w' g M ⟨r, -1, false, L⟩ ∧ Below w.heap.size w w' := by
  have hm : mayS ⟨r, -1, false, L⟩ true [s] = 7 := by simp [mayS, mayN, badB, rdS, hg.yes, hL]
  have := read_no hg.ok hg.size w h (by rw [hm]; decide)
  rw [hm] at this
  exact this
end
theorem good_b : Good ⟨#[98]⟩ := ⟨named_ascii _ (by decide) (fun i h => by
    have h' : i < 1 := h
    obtain rfl : i = 0 := by omega
    exact (by decide : (98 : UInt8).toNat < 128)), by decide, by decide⟩
theorem nAB : ((⟨#[97]⟩ : ByteArray) = ⟨#[98]⟩) = False := by simp
theorem nBA : ((⟨#[98]⟩ : ByteArray) = ⟨#[97]⟩) = False := by simp
set_option maxRecDepth 100000 in
set_option maxHeartbeats 8000000 in
theorem renames_any (w : World) (A : Option Addr) (c : Nat) (l : List Int) (hC : Kd.C (Kd.int .u8) w A l.length l) (hc : l.length ≤ c) (A2 : Option Addr) (c2 : Nat) (l2 : List Int) (hC2 : Kd.C (Kd.int .u8) w A2 l2.length l2) (hc2 : l2.length ≤ c2) :
    Calls Try.prog 6 #[.slice A l.length c, .slice A2 l2.length c2] w fun x w' => x = .returned (.bool true) ∧ Below w.heap.size w w' := by
  have HF1 := Aside0.mk (fun W => few_calls A c l W hc)
  have HF2 := Aside0.mk (fun W => few_calls A2 c2 l2 W hc2)
  have HC1 := Aside0.mk (C_few hC)
  have HC2 := Aside0.mk (C_few hC2)
  have hx1 : (l.take 30).length ≤ 30 := by rw [List.length_take]; omega
  have hx2 : (l2.take 30).length ≤ 30 := by rw [List.length_take]; omega
  have hq1 : (l.take 30).length ≤ c := by rw [List.length_take]; omega
  have hq2 : (l2.take 30).length ≤ c2 := by rw [List.length_take]; omega
  generalize l.take 30 = p at *
  generalize l2.take 30 = q at *
  clear hC hC2
  have HG := Aside0.mk (show Has (fun k => w.heap.size ≤ k) w w (w.heap.size + 1) w.heap.size ⟨100, -1, false, []⟩ → True from fun _ => trivial)
  clear HG
  go_enter Try.func6, Try.ntmps6
  go_wp2_with (first
    | (go_at_call 10; (with_reducible refine (HF1.out _).mono ?_); rintro x w' ⟨rfl, hw'⟩; have hw2 := hw'.symm; clear hw'; subst hw2)
    | (go_at_call 10; (with_reducible refine (HF2.out _).mono ?_); rintro x w' ⟨rfl, hw'⟩; have hw2 := hw'.symm; clear hw'; subst hw2)
    | (go_at_call 9; (with_reducible refine (new_calls 100 w).mono ?_); rintro x w1 ⟨rfl, h1, hb1⟩; have H1 := Aside0.mk (show Has (fun k => w.heap.size ≤ k) w w1 (w.heap.size + 1) w.heap.size ⟨100, -1, false, []⟩ from ⟨fun k hk => Nat.le_trans hb1.size hk, DFrame.of hb1, [], rfl, h1⟩); have HB1 := Aside0.mk hb1; clear h1 hb1)
    | (go_at_call 11; (with_reducible refine (create_c good_a w1 H1.out rfl (by decide)).mono ?_); rintro x w2 ⟨rfl, h2⟩; have H2 := Aside0.mk h2; have HW2 := Aside0.mk (h2.frame.below (fun _ h => h) (Nat.le_refl _)); clear h2)
    | (go_at_call 12; (with_reducible refine (app_c good_a A p.length c p _ H2.out rfl rfl (Kd.C_below HC1.out HW2.out) hq1 (by decide) (by simp [totalL]; omega)).mono ?_); rintro x w3 ⟨rfl, h3⟩; have H3 := Aside0.mk (show Has (fun k => w.heap.size ≤ k) w w3 (w.heap.size + 1) w.heap.size ⟨100, -1, false, [(⟨#[97]⟩, ⟨p, 0⟩)]⟩ from by simpa [updL, getL] using h3); clear h3)
    | (go_at_call 11; (with_reducible refine (create_c good_b w3 H3.out (by simp [hasL, nAB]) (by simp)).mono ?_); rintro x w4 ⟨rfl, h4⟩; have H4 := Aside0.mk h4; have HW4 := Aside0.mk (h4.frame.below (fun _ h => h) (Nat.le_refl _)); clear h4)
    | (go_at_call 12; (with_reducible refine (app_c good_b A2 q.length c2 q _ H4.out (by simp [hasL]) rfl (Kd.C_below HC2.out HW4.out) hq2 (by decide) (by simp [totalL]; omega)).mono ?_); rintro x w5 ⟨rfl, h5⟩; have H5 := Aside0.mk (show Has (fun k => w.heap.size ≤ k) w w5 (w.heap.size + 1) w.heap.size ⟨100, -1, false, [(⟨#[98]⟩, ⟨q, 0⟩), (⟨#[97]⟩, ⟨p, 0⟩)]⟩ from by simpa [updL, getL, nAB] using h5); clear h5)
    | (go_at_call 20; (with_reducible refine (rename_c good_a good_b _ H5.out (by simp [hasL]) (by simp)).mono ?_); rintro x w6 ⟨rfl, h6⟩; have H6 := Aside0.mk (show Has (fun k => w.heap.size ≤ k) w w6 (w.heap.size + 1) w.heap.size ⟨100, -1, false, [(⟨#[98]⟩, ⟨p, 0⟩)]⟩ from by simpa [delL, getL, nAB, nBA] using h6); clear h6)
    | (go_at_call 13; (with_reducible refine (read_c good_b _ H6.out (by simp [hasL]) (by simp [totalL]; omega)).mono ?_); rintro x w7 ⟨h7, v7, b7, hb7, rfl, hR7, hbl7⟩; have hR7' : Kd.R (Kd.int .u8) 5 w7 b7 (fun _ => True) v7 p := (by simpa [getL] using hR7); obtain ⟨A7, c7, rfl⟩ := Kd.R_slice hR7'; have HR7 := Aside0.mk (Kd.F_now (Kd.R_F hR7')); have H7 := Aside0.mk h7; clear h7 hR7 hR7' hbl7)
    | (go_at_call 13; (with_reducible refine (read_c0 good_a _ H7.out (by simp [hasL, nBA])).mono ?_); rintro x w8 ⟨rfl, h8, hb8⟩; have H8 := Aside0.mk h8; have HR8 := Aside0.mk (Kd.C_below HR7.out hb8); have HB8 := Aside0.mk (h8.frame.below (fun _ h => h) (Nat.le_refl _)); clear h8 hb8))
  have HX7 := Aside0.mk (fun W (h : Below w8.heap.size w8 W) => str_run W A7 p.length c7 p rfl (Kd.C_below HR8.out h))
  have HX8 := Aside0.mk (fun W (h : Below w8.heap.size w8 W) => str_run W A p.length c p rfl (Kd.C_below HC1.out (below_more HB8.out h)))
  have HFr := Aside0.mk (fun W (h : Below w8.heap.size w8 W) => free_h W (H8.out.below h) (show (0 : Int) ≤ 100 by decide) (show (100 : Int) ≤ 1000000 by decide) (by simp [totalL]; omega))
  have hw : IntKind.i64.wrap (100 - (p.length : Int)) = 100 - (p.length : Int) := by rw [IntKind.wrap_i64]; omega
  have hcx := HX7.out
  have hcy := HX8.out
  have htot : totalL [((⟨#[98]⟩ : ByteArray), (⟨p, 0⟩ : DFile))] = p.length := by simp [totalL]
  simp only [htot] at HFr
  clear htot
  go_region_held3 (fun W => Below w8.heap.size w8 W) (first | exact Below.refl _ _ | assumption | exact below_more (by assumption) (by assumption) | exact Below.drew (Below.refl _ _) | go_keep)
    (first
    | (go_at_call 10; (with_reducible refine (HF1.out _).mono ?_); rintro x w' ⟨rfl, hw'⟩; have hw2 := hw'.symm; clear hw'; subst hw2)
    | (go_at_call 14; (with_reducible refine (HFr.out _ (by assumption)).mono ?_); rintro x w9 ⟨rfl, h9, hb9⟩; clear h9)
    | (go_at_call 15; (with_reducible refine (lives_calls _).mono ?_); rintro x w10 ⟨rfl, hb10⟩))
  go_wp2
  go_ret
  exact ⟨rfl, below_more HB8.out (by assumption)⟩
theorem renames_row (w : World) (A : Option Addr) (c : Nat) (l : List Int) (hC : Kd.C (Kd.int .u8) w A l.length l) (hc : l.length ≤ c) {P : Prop} (hp : P) (A2 : Option Addr) (c2 : Nat) (l2 : List Int) (hC2 : Kd.C (Kd.int .u8) w A2 l2.length l2) (hc2 : l2.length ≤ c2) {P2 : Prop} (hp2 : P2) :
    Calls Try.prog 6 #[.slice A l.length c, .slice A2 l2.length c2] w fun x w' => x = .returned (.bool true) ∧ Below w.heap.size w w' := renames_any w A c l hC hc A2 c2 l2 hC2 hc2
end Go.Proofs.Ytbndgnbhmifefaa
