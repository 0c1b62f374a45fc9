/- List: nil while the power is gone; of one file: its name. few. -/
import Derived.Test.YtbndgnbhmifefaaDkRead
import Derived.Test.YtbndgnbhmifefaaShelf
namespace Go.Proofs.Ytbndgnbhmifefaa
open Go.RowKit Go.Proofs.YtbndgnbhmifefaaW.PrintWords Go.Proofs.YtbndgnbhmifefaaW.PrintMore
set_option linter.unusedVariables false
set_option linter.unusedSimpArgs false
theorem list_down (O : Nat → Prop) (g M : Nat) (room armed : Int) (E : List DEnt) (w : World) (h : DRep O w g M room armed true E) :
    Calls Try.prog 25 #[.pointer (some ⟨g, 0, none⟩)] w fun x w' => x = .returned (.slice none 0 0) ∧ w' = w := by
  have k3 := h.c3
  clear h
  go_enter Try.func25, Try.ntmps25
  go_wp2
  go_ret
  exact ⟨rfl, rfl⟩
def OneTell (w : World) (s : ByteArray) (x : Ending) (w' : World) : Prop := ∃ nb cap, w.heap.size ≤ nb ∧ nb < w'.heap.size ∧ x = .returned (.slice (some ⟨nb, 0, none⟩) 1 cap) ∧ w'.cell? ⟨nb, 0, none⟩ = some (.string s) ∧ Below w.heap.size w w'
theorem one_told {w w1 w' : World} {v : Value} {ss : List (List UInt8)} {D : DataW Unit} {e : DEnt} (hD : DRel D [e]) (hp : ss.Perm (strKeys D)) (hb1 : Below w.heap.size w w1) (ho : w'.ownsRow w1.heap.size 9 1 v ss.length ((ss.mergeSort (fun x y => decide (x ≤ y))).map encStr)) (hb : Below w1.heap.size w1 w') : OneTell w e.name (.returned v) w' := by
  obtain ⟨es, rfl, hes⟩ := hD
  have he : es = [entD e] := List.perm_singleton.1 hes
  subst he
  have hk : strKeys (DataW.map [entD e] : DataW Unit) = [e.name.data.toList] := by simp [strKeys, entD, keyL, Go.strOf]
  rw [hk] at hp
  have hs : ss = [e.name.data.toList] := List.perm_singleton.1 hp
  subst hs
  simp only [List.mergeSort_singleton, List.map_cons, List.map_nil, List.length_cons, List.length_nil, Nat.zero_add] at ho
  rcases ho.2 with ⟨_, h0⟩ | ⟨g, cap, cur, rfl, hg, hgg, _, _, _, _⟩
  · cases h0
  · have hc := ho.cells (g := g) rfl 0 _ rfl
    refine ⟨g, cap, by have := hb1.size; omega, (Array.getElem?_eq_some_iff.1 hgg).1, rfl, ?_, below_more hb1 hb⟩
    have hadd : (⟨g, 0, none⟩ : Addr).add 0 = ⟨g, 0, none⟩ := rfl
    rw [hadd] at hc
    rw [hc]
theorem list_one (O : Nat → Prop) (g M : Nat) (room armed : Int) (e : DEnt) (w : World) (h : DRep O w g M room armed false [e]) :
    Calls Try.prog 25 #[.pointer (some ⟨g, 0, none⟩)] w (OneTell w e.name) := by
  have k3 := h.c3
  have k1 := h.c1
  obtain ⟨D, hM, hD⟩ := h.map
  have HD := Aside0.mk hD
  have HK := Aside0.mk (callsIn_wide.1 (Try.maps_Keys_41 (some M) w))
  have hsz := hD.size
  have HS := Aside0.mk (callsIn_wide.1 (Try.slices_Sorted_keys_40_41 M _ D ptrR w hM (by rw [hsz]; exact (by decide : 1 ≤ maxLen)) (by rw [hsz]; exact (by decide : 1 * 16 ≤ 140737488355328))))
  clear h hM hD hsz
  go_enter Try.func25, Try.ntmps25
  go_wp2_with (first
    | (go_at_call 41; (with_reducible refine HK.out.mono ?_); rintro x w1 ⟨rfl, rfl⟩)
    | (go_at_call 40; (with_reducible refine HS.out.mono ?_); rintro x w2 ⟨v, ss, rfl, hp, ho, _, hb⟩))
  go_ret
  exact one_told HD.out hp (below_alloc (Below.refl _ _) _) ho hb
theorem cut_run (A : Option Addr) (n c : Nat) (h : Int) (h0 : 0 ≤ h) (h2 : h ≤ c) (W : World) : (Instr.slice 22 (.slice A n c) none (some (.int .i64 h)) none).run Try.prog W = .ok (.slice A h.toNat c) W := by
  have hel : Try.prog.elem 22 = 5 := by kernel_rfl
  have hu : Try.prog.underlying 22 = some (.slice (Try.prog.elem 22)) := by rw [hel]; exact Try.underlying22
  rw [run_slice_h W 22 A n c hu .i64 h h0 h2, hel]
  have hz : (sizeOf 5).run Try.prog W = .ok 1 W := by kernel_rfl
  rw [hz]
  simp only [sliced, Result.andThen]
  cases A with
  | none => simp
  | some a => obtain ⟨k, o, i⟩ := a; cases i <;> simp [Addr.add]
theorem few_short (A : Option Addr) (n c : Nat) (w : World) (hn : n ≤ 30) :
    Calls Try.prog 10 #[.slice A n c] w fun x w' => x = .returned (.slice A n c) ∧ w' = w := by
  have h1 : ¬ ((30 : Int) < (n : Int)) := by omega
  go_enter Try.func10, Try.ntmps10
  go_wp2
  go_ret
  exact ⟨rfl, rfl⟩
theorem few_long (A : Option Addr) (n c : Nat) (w : World) (hn : 30 < n) (hc : n ≤ c) :
    Calls Try.prog 10 #[.slice A n c] w fun x w' => x = .returned (.slice A 30 c) ∧ w' = w := by
  have h1 : (30 : Int) < (n : Int) := by omega
  have hcut : ∀ W : World, (Instr.slice 22 (.slice A n c) none (some (.int .i64 30)) none).run Try.prog W = .ok (.slice A 30 c) W := fun W => cut_run A n c 30 (by omega) (by omega) W
  go_enter Try.func10, Try.ntmps10
  go_wp2
  go_ret
  exact ⟨rfl, rfl⟩
end Go.Proofs.Ytbndgnbhmifefaa
