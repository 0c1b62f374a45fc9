/- Read, Arm, Down, New. -/
import Derived.Test.YtbndgnbhmifefaaDkDeeds
import Derived.Test.YtbndgnbhmifefaaWMore
import Derived.Carry
namespace Go.Proofs.Ytbndgnbhmifefaa
open Go.RowKit Go.Proofs.YtbndgnbhmifefaaW.PrintWords Go.Proofs.YtbndgnbhmifefaaW.PrintMore
set_option linter.unusedVariables false
set_option linter.unusedSimpArgs false
/-- what a call of Read tells -/
def ReadTell (w : World) (l : List Int) (x : Ending) (w' : World) : Prop := ∃ v base, w.heap.size ≤ base ∧ x = .returned (.tuple #[v, .int .i64 0]) ∧ Kd.R (Kd.int .u8) 5 w' base (fun _ => True) v l ∧ Below w.heap.size w w'
theorem read_err (O : Nat → Prop) (g M : Nat) (room armed : Int) (down : Bool) (E : List DEnt) (s : ByteArray) (w : World) (h : DRep O w g M room armed down E) (hn : NamedOk s) (hs : s.size ≤ 9223372036854775807) (m : Int) (hm : mayR down true E [s] = m) (hm0 : m ≠ 0) :
    Calls Try.prog 13 #[.pointer (some ⟨g, 0, none⟩), .string s] w fun x w' => x = .returned (.tuple #[.slice none 0 0, .int .i64 m]) ∧ Below w.heap.size w w' := by
  have HD := Aside0.mk h
  have HM := Aside0.mk (fun b c W hD hC => may_one O g M room armed down true E b c s W hD hC hn hs)
  rw [hm] at HM
  have e2 : (m != 0) = true := bne_iff_ne.2 hm0
  clear h hn hm hs hm0
  go_enter Try.func13, Try.ntmps13
  go_wp2_with (go_at_call 27; (with_reducible refine (HM.out _ _ _ (HD.out.below (below_alloc (Below.refl _ _) _)) (heap_alloc_new _ _)).mono ?_); rintro e w2 ⟨rfl, hb2⟩)
  go_ret2
  exact ⟨rfl, ((below_alloc (Below.refl _ _) _)).trans (hb2.mono (by simp))⟩
theorem read_ok (O : Nat → Prop) (g M : Nat) (room armed : Int) (down : Bool) (E : List DEnt) (e : DEnt) (he : e ∈ E) (w : World) (h : DRep O w g M room armed down E) (hn : NamedOk e.name) (hs : e.name.size ≤ 9223372036854775807) (hm : mayR down true E [e.name] = 0) (hl : e.file.bytes.length ≤ 140737488355328) :
    Calls Try.prog 13 #[.pointer (some ⟨g, 0, none⟩), .string e.name] w (ReadTell w e.file.bytes) := by
  have HD := Aside0.mk h
  have HM := Aside0.mk (fun b c W hD hC => may_one O g M room armed down true E b c e.name W hD hC hn hs)
  rw [hm] at HM
  have HL := Aside0.mk (fun W (hb : Below w.heap.size w W) => (h.below hb).lookP (W' := W) he hs rfl)
  unfold ptrV at HL
  obtain ⟨A, c, hb, hc, hFt⟩ := h.files e he
  have HFile := Aside0.mk hb
  have HCl := Aside0.mk (fun (W : World) (hW : Below w.heap.size w W) => clone_calls A e.file.bytes.length c e.file.bytes W (Kd.F_now (Kd.F_below hFt hW)) hl)
  clear h hn hm hs hb hc hFt he
  generalize e.name = nm at *
  generalize e.blk = b at *
  generalize e.file.bytes.length = n at *
  generalize e.file.bytes = l at *
  go_enter Try.func13, Try.ntmps13
  go_wp2_with (first
    | (go_at_call 27; (with_reducible refine (HM.out _ _ _ (HD.out.below (below_alloc (Below.refl _ _) _)) (heap_alloc_new _ _)).mono ?_); rintro x w2 ⟨rfl, hb2⟩; have HB2 := Aside0.mk (((below_alloc (Below.refl w.heap.size w) _)).trans (hb2.mono (by simp))); have k1 := (HD.out.below HB2.out).c1; have hl3 := HL.out _ HB2.out; have f0 : w2.cell? ⟨b, 0, none⟩ = some (.slice A n c) := pw_cell_below HB2.out (cell_of_row w _ 0 _ _ _ HFile.out); clear hb2)
    | (go_at_call 31; (with_reducible refine (HCl.out _ HB2.out).mono ?_); rintro x w3 ⟨v, rfl, hR, hb3⟩))
  go_ret2
  exact ⟨_, _, HB2.out.size, rfl, hR, below_more HB2.out hb3⟩
theorem arm_calls (O : Nat → Prop) (g M : Nat) (room armed : Int) (down : Bool) (E : List DEnt) (n : Int) (w : World) (h : DRep O w g M room armed down E) :
    Calls Try.prog 17 #[.pointer (some ⟨g, 0, none⟩), .int .i64 n] w fun x w' => x = .returned (.tuple #[]) ∧ DRep O w' g M room (max n (-1)) down E ∧ DFrame O w w' := by
  have hm : ∀ (ats : Array TypeId) (ty : TypeId), Builtin.max_ ats ty #[.int .i64 n, .int .i64 (-1)] = pure (.int .i64 (max n (-1))) := fun ats ty => by
    rw [max_two]
    simp only [max2_int, pure_bind]
    congr 2
    split <;> omega
  have f2 := h.free 2
  have k2 := h.c2
  have HM := Aside0.mk (show DRep O (w.setCell ⟨g, 2, none⟩ (.int .i64 (max n (-1)))) g M room (max n (-1)) down E ∧ DFrame O w (w.setCell ⟨g, 2, none⟩ (.int .i64 (max n (-1)))) from ⟨h.cell 2 _ (by rfl), (DFrame.refl _ _).set _ _ h.own.1⟩)
  generalize max n (-1) = m at *
  clear h
  go_enter Try.func17, Try.ntmps17
  go_wp2
  go_end0
  exact ⟨rfl, HM.out⟩
theorem down_calls (O : Nat → Prop) (g M : Nat) (room armed : Int) (down : Bool) (E : List DEnt) (w : World) (h : DRep O w g M room armed down E) :
    Calls Try.prog 18 #[.pointer (some ⟨g, 0, none⟩)] w fun x w' => x = .returned (.bool down) ∧ w' = w := by
  have k3 := h.c3
  clear h
  go_enter Try.func18, Try.ntmps18
  go_wp2
  go_ret
  exact ⟨rfl, rfl⟩
theorem DRep.made (w : World) (room : Int) : DRep (fun k => w.heap.size ≤ k) ((w.alloc (.map #[] 0)).alloc (.cells #[.int .i64 room, .map (some w.heap.size), .int .i64 (-1), .bool false] 55)) (w.heap.size + 1) w.heap.size room (-1) false [] where
  blk := by unfold DiskBlk; exact heap_alloc2_new _ _ _
  map := ⟨.map [], map_move (World.ownsMap_made w _ _ _) ((heap_alloc2_old _ _ _).trans (heap_alloc_new _ _).symm), DRel.nil⟩
  files := fun e he => by cases he
  names := List.nodup_nil
  blks := List.nodup_nil
  ne := ⟨by omega, fun e he => by cases he⟩
  own := ⟨by omega, by omega, fun e he => by cases he⟩
theorem new_calls (room : Int) (w : World) :
    Calls Try.prog 9 #[.int .i64 room] w fun x w' => x = .returned (.pointer (some ⟨w.heap.size + 1, 0, none⟩)) ∧ DRep (fun k => w.heap.size ≤ k) w' (w.heap.size + 1) w.heap.size (max room 0) (-1) false [] ∧ Below w.heap.size w w' := by
  have hm : ∀ (ats : Array TypeId) (ty : TypeId), Builtin.max_ ats ty #[.int .i64 room, .int .i64 0] = pure (.int .i64 (max room 0)) := fun ats ty => by
    rw [max_two]
    simp only [max2_int, pure_bind]
    congr 2
    split <;> omega
  have HM := Aside0.mk (DRep.made w (max room 0))
  generalize max room 0 = r at *
  have hmm := @run_makeMap Try.prog
  go_enter Try.func9, Try.ntmps9
  go_wp2
  go_ret
  exact ⟨rfl, HM.out, below_alloc (below_alloc (Below.refl _ _) _) _⟩
end Go.Proofs.Ytbndgnbhmifefaa
