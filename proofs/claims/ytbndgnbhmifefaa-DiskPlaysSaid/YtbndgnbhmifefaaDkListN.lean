/- List of a disk of any files: their names in order. -/
import Derived.Test.YtbndgnbhmifefaaDkHas
import Derived.Test.YtbndgnbhmifefaaDkList
namespace Go.Proofs.Ytbndgnbhmifefaa
open Go.RowKit Go.Proofs.YtbndgnbhmifefaaW.PrintWords Go.Proofs.YtbndgnbhmifefaaW.PrintMore
set_option linter.unusedVariables false
set_option linter.unusedSimpArgs false
/-- the names of a disk's files, sorted -/
def sortN (l : List (List UInt8)) : List (List UInt8) := l.mergeSort (fun x y => decide (x ≤ y))
def ListTell (w : World) (ss : List (List UInt8)) (x : Ending) (w' : World) : Prop := ∃ v base, w.heap.size ≤ base ∧ x = .returned v ∧ w'.ownsRow base 9 1 v ss.length (ss.map encStr) ∧ Below w.heap.size w w'
theorem keys_perm {D : DataW Unit} {E : List DEnt} (hD : DRel D E) : (strKeys D).Perm (E.map (fun e => e.name.data.toList)) := by
  obtain ⟨es, rfl, hes⟩ := hD
  have h1 : strKeys (DataW.map es : DataW Unit) = es.map (fun x => Go.strOf x.1) := by simp [strKeys]
  rw [h1]
  have h2 := hes.map (fun x => Go.strOf x.1)
  have h3 : (E.map entD).map (fun x => Go.strOf x.1) = E.map (fun e => e.name.data.toList) := by
    rw [List.map_map]; rfl
  rwa [h3] at h2
theorem sortN_sorted (l : List (List UInt8)) : (sortN l).Pairwise (fun x y => x ≤ y) := by
  have h := List.pairwise_mergeSort (le := fun x y : List UInt8 => decide (x ≤ y)) (fun a b c h1 h2 => decide_eq_true (List.le_trans (of_decide_eq_true h1) (of_decide_eq_true h2))) (fun a b => by
    rcases List.le_total a b with h | h
    · simp [h]
    · simp [h]) l
  exact h.imp (fun h => of_decide_eq_true h)
theorem sortN_perm {l m : List (List UInt8)} (h : l.Perm m) : sortN l = sortN m := by
  refine List.Perm.eq_of_pairwise (le := fun x y => x ≤ y) (fun a b _ _ h1 h2 => List.le_antisymm h1 h2) (sortN_sorted l) (sortN_sorted m) ?_
  exact (List.mergeSort_perm l _).trans (h.trans (List.mergeSort_perm m _).symm)
theorem list_told {w w1 w' : World} {v : Value} {ss K N : List (List UInt8)} (hKN : K.Perm N) (hp : ss.Perm K) (hb1 : Below w.heap.size w w1) (ho : w'.ownsRow w1.heap.size 9 1 v ss.length ((ss.mergeSort (fun x y => decide (x ≤ y))).map encStr)) (hb : Below w1.heap.size w1 w') : ListTell w (sortN N) (.returned v) w' := by
  refine ⟨v, w1.heap.size, hb1.size, rfl, ?_, below_more hb1 hb⟩
  have he := sortN_perm (hp.trans hKN)
  have hl : (sortN N).length = ss.length := by rw [← he]; exact (List.mergeSort_perm ss _).length_eq
  rw [hl, ← he]
  exact ho
theorem list_calls (O : Nat → Prop) (g M : Nat) (room armed : Int) (E : List DEnt) (hE : E.length ≤ 100000) (w : World) (h : DRep O w g M room armed false E) :
    Calls Try.prog 25 #[.pointer (some ⟨g, 0, none⟩)] w (ListTell w (sortN (E.map (fun e => e.name.data.toList)))) := by
  have k3 := h.c3
  have k1 := h.c1
  obtain ⟨D, hM, hD⟩ := h.map
  have HP := Aside0.mk (keys_perm hD)
  have HK := Aside0.mk (callsIn_wide.1 (Try.maps_Keys_41 (some M) w))
  have hsz := hD.size
  have HS := Aside0.mk (callsIn_wide.1 (Try.slices_Sorted_keys_40_41 M _ D ptrR w hM (by rw [hsz]; unfold maxLen; omega) (by rw [hsz]; omega)))
  clear h hM hD hsz
  generalize E.map (fun e => e.name.data.toList) = N at *
  go_enter Try.func25, Try.ntmps25
  go_wp2_with (first
    | (go_at_call 41; (with_reducible refine HK.out.mono ?_); rintro x w1 ⟨rfl, rfl⟩)
    | (go_at_call 40; (with_reducible refine HS.out.mono ?_); rintro x w2 ⟨v, ss, rfl, hp, ho, _, hb⟩))
  go_ret
  exact list_told HP.out hp (below_alloc (Below.refl _ _) _) ho hb
end Go.Proofs.Ytbndgnbhmifefaa
