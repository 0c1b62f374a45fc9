/- slices.ContainsFunc at names, and what may tells. Conditions: the names read so, and named serves at each. -/
import Derived.Test.YtbndgnbhmifefaaDkNamed
namespace Go.Proofs.Ytbndgnbhmifefaa
open Go.RowKit Go.Proofs.YtbndgnbhmifefaaW.PrintWords
set_option linter.unusedVariables false
set_option linter.unusedSimpArgs false
theorem may1_calls (s : ByteArray) (h : NamedOk s) (b : Bool) (hb : namedB s = b) (W : World) : Calls Try.prog 43 #[.string s] W fun e w' => e = .returned (.bool !b) ∧ Below W.heap.size W w' := by
  have H := Aside0.mk (h W)
  rw [hb] at H
  clear h
  go_enter Try.func43, Try.ntmps43
  go_wp2_with (go_at_call 44; (with_reducible refine H.out.mono ?_); rintro e w1 ⟨rfl, hb1⟩)
  go_ret
  exact ⟨rfl, hb1⟩
def rdS (xs : List ByteArray) (i : Nat) : ByteArray := xs.getD i ⟨#[]⟩
theorem at_str {w : World} {A : Option Addr} {n : Nat} {xs : List ByteArray} (h : Kd.C Kd.string w A n xs) (i : Nat) (h1 : i < n) : ∃ ad, A = some ad ∧ w.cell? (ad.add i) = some (.string (rdS xs i)) := by
  obtain ⟨ad, c, e, _, hK, hc0⟩ := Kd.C_get h (⟨#[]⟩ : ByteArray) (i : Int) (by omega) (by omega)
  have hc : ∀ j u, c[j]? = some u → w.cell? (ad.add ((i : Int).toNat * 1 + j)) = some u := hc0
  obtain rfl := hK
  exact ⟨ad, e, by have hq := hc 0 _ rfl; rwa [Nat.mul_one, Nat.add_zero, Int.toNat_natCast] at hq⟩
theorem rdS_mem {xs : List ByteArray} {i : Nat} (h : i < xs.length) : rdS xs i ∈ xs := by
  unfold rdS; rw [List.getD_eq_getElem?_getD, List.getElem?_eq_getElem h]; exact List.getElem_mem h
def badB (xs : List ByteArray) : Bool := xs.any (fun s => !namedB s)
def goodTo (xs : List ByteArray) (k : Nat) : Prop := badB (xs.take k) = false
theorem goodTo_succ {xs : List ByteArray} {k : Nat} (h : k < xs.length) (h1 : goodTo xs k) (h2 : namedB (rdS xs k) = true) : goodTo xs (k + 1) := by
  unfold goodTo badB rdS at *
  rw [List.take_succ_eq_append_getElem h, List.any_append, h1]
  rw [List.getD_eq_getElem?_getD, List.getElem?_eq_getElem h] at h2
  simpa using h2
theorem bad_at {xs : List ByteArray} {k : Nat} (h : k < xs.length) (h2 : namedB (rdS xs k) = false) : badB xs = true := by
  unfold badB
  rw [List.any_eq_true]
  exact ⟨_, rdS_mem h, by simp [h2]⟩
def IdxTell (xs : List ByteArray) (w : World) (e : Ending) (w' : World) : Prop := ∃ n : Int, e = .returned (.int .i64 n) ∧ decide (0 ≤ n) = badB xs ∧ Below w.heap.size w w'
theorem IdxTell.mk {xs : List ByteArray} {w w' : World} {n : Int} (h : decide (0 ≤ n) = badB xs) (hb : Below w.heap.size w w') : IdxTell xs w (.returned (.int .i64 n)) w' := ⟨n, rfl, h, hb⟩
theorem below_more {W w1 w2 : World} (h : Below W.heap.size W w1) (h2 : Below w1.heap.size w1 w2) : Below W.heap.size W w2 := h.trans (h2.mono h.size)
set_option maxRecDepth 100000 in
set_option maxHeartbeats 4000000 in
theorem idx_calls (A : Option Addr) (c : Nat) (xs : List ByteArray) (w : World) (hC : Kd.C Kd.string w A xs.length xs) (hn : ∀ s ∈ xs, NamedOk s) :
    Calls Try.prog 54 #[.slice A xs.length c, .func (.func 43) #[] #[]] w (IdxTell xs w) := by
  have hlen : xs.length ≤ 9223372036854775807 := hC.2.1
  have HC := Aside0.mk hC
  have HN := Aside0.mk hn
  clear hC hn
  go_enter Try.func54, Try.ntmps54
  go_wp2
  go_loopw [5, 8] (fun u i wr => ∃ k : Nat, k ≤ xs.length ∧ i = .int .i64 k ∧ goodTo xs k ∧ Below w.heap.size w wr) (fun _ i _ => xs.length - (intOf i).toNat)
  case atStart => exact ⟨0, by omega, rfl, rfl, Below.refl _ _⟩
  case round =>
    obtain ⟨k, hk, rfl, hg, hbel⟩ := hrel
    have HG := Aside0.mk hg
    clear hg
    by_cases hlt : k < xs.length
    · obtain ⟨ad, eA, d0⟩ := at_str HC.out k hlt
      cases eA
      replace d0 := pw_cell_below hbel d0
      have HOk := Aside0.mk (HN.out _ (rdS_mem hlt))
      have HBel := Aside0.mk hbel
      clear hbel
      cases hb : namedB (rdS xs k)
      · have HX := Aside0.mk (bad_at hlt hb)
        have HM := Aside0.mk (fun W => may1_calls (rdS xs k) HOk.out false hb W)
        clear hb
        generalize rdS xs k = s at *
        go_wp2_with (go_at_call 43; (with_reducible refine (HM.out _).mono ?_); rintro e w1 ⟨rfl, hb1⟩; have HB1 := Aside0.mk hb1; clear hb1)
        go_ret
        exact IdxTell.mk (by rw [HX.out]; exact decide_eq_true (by omega)) (below_more HBel.out HB1.out)
      · have HX := Aside0.mk (goodTo_succ hlt HG.out hb)
        have HM := Aside0.mk (fun W => may1_calls (rdS xs k) HOk.out true hb W)
        clear hb
        generalize rdS xs k = s at *
        go_wp2_with (go_at_call 43; (with_reducible refine (HM.out _).mono ?_); rintro e w1 ⟨rfl, hb1⟩; have HB1 := Aside0.mk hb1; clear hb1)
        go_roundw
        case rel => exact ⟨k + 1, by omega, by go_num, HX.out, below_more HBel.out HB1.out⟩
        case measure => simp [intOf]; omega
    · obtain rfl : k = xs.length := by omega
      have HX := Aside0.mk (show badB xs = false from by have := HG.out; unfold goodTo at this; rwa [List.take_of_length_le (Nat.le_refl _)] at this)
      go_wp2
      go_ret
      exact IdxTell.mk (by rw [HX.out]; rfl) hbel
theorem contains_calls (A : Option Addr) (c : Nat) (xs : List ByteArray) (w : World) (hC : Kd.C Kd.string w A xs.length xs) (hn : ∀ s ∈ xs, NamedOk s) :
    Calls Try.prog 42 #[.slice A xs.length c, .func (.func 43) #[] #[]] w fun e w' => e = .returned (.bool (badB xs)) ∧ Below w.heap.size w w' := by
  have H := Aside0.mk (idx_calls A c xs w hC hn)
  clear hC hn
  go_enter Try.func42, Try.ntmps42
  go_wp2_with (go_at_call 54; (with_reducible refine H.out.mono ?_); rintro e w1 ⟨n, rfl, hn, hb1⟩; have HX := Aside0.mk hn; clear hn)
  go_ret
  exact ⟨by rw [← HX.out]; rfl, hb1⟩
end Go.Proofs.Ytbndgnbhmifefaa
