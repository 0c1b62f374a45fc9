/- Create: what its function does, and the deed. Conditions: the disk stands where the pointer points. -/
import Derived.Test.YtbndgnbhmifefaaDkDo
import Derived.Deep.RegionHeld3
namespace Go.Proofs.Ytbndgnbhmifefaa
open Go.RowKit Go.Proofs.YtbndgnbhmifefaaW.PrintWords
set_option linter.unusedVariables false
set_option linter.unusedSimpArgs false
theorem DRep.put {O : Nat → Prop} {W W' : World} {g M : Nat} {room armed : Int} {down : Bool} {E : List DEnt} (h : DRep O W g M room armed down E) {s : ByteArray} {D' : DataW Unit} {n b : Nat}
    (hnew : ∀ e ∈ E, e.name ≠ s) (hm : W'.ownsMap Try.prog 9 ptrR M n D') (hD : DRel D' (⟨s, b, ⟨[], 0⟩⟩ :: E)) (hb : W'.heap[b]? = some (.cells #[.slice none 0 0, .int .i64 0] 60 (0, 0))) (hob : O b) (hbl : W.heap.size ≤ b) (hk : ∀ k, k < W.heap.size → k ≠ M → W'.heap[k]? = W.heap[k]?) :
    DRep O W' g M room armed down (⟨s, b, ⟨[], 0⟩⟩ :: E) where
  blk := (hk g h.glt h.ne.1).trans h.blk
  map := ⟨D', map_short hm hD, hD⟩
  files := fun e he => by
    rcases List.mem_cons.1 he with rfl | he
    · exact ⟨none, 0, hb, Nat.le_refl _, Kd.F_nil _ _ _⟩
    · refine FileRep.move ((h.files e he).mono (ok' := Free O g M (⟨s, b, ⟨[], 0⟩⟩ :: E)) (fun k ho hlt => ⟨ho.1, ho.2.1, ho.2.2.1, fun e' he' => ?_⟩)) (hk _ (h.files e he).lt (h.ne.2 e he).2) (fun k ho hlt => hk k hlt ho.2.2.1)
      rcases List.mem_cons.1 he' with rfl | he'
      · simp only; omega
      · exact ho.2.2.2 e' he'
  names := by
    rw [List.map_cons, List.nodup_cons]
    exact ⟨fun hh => by obtain ⟨e, he, h1⟩ := List.mem_map.1 hh; exact hnew e he h1, h.names⟩
  blks := by
    rw [List.map_cons, List.nodup_cons]
    exact ⟨fun hh => by obtain ⟨e, he, h1⟩ := List.mem_map.1 hh; have := (h.files e he).lt; simp only at h1; omega, h.blks⟩
  ne := ⟨h.ne.1, fun e he => by
    rcases List.mem_cons.1 he with rfl | he
    · have := h.glt; have := h.mlt; exact ⟨by simp only; omega, by simp only; omega⟩
    · exact h.ne.2 e he⟩
  own := ⟨h.own.1, h.own.2.1, fun e he => by
    rcases List.mem_cons.1 he with rfl | he
    · exact hob
    · exact h.own.2.2 e he⟩
theorem keyOf_str {s : ByteArray} (hs : s.size ≤ 9223372036854775807) : keyOf Try.prog 9 (.string s) = some (keyL s) := Go.WideMaps.keyOf_string_mk Try.underlying9 hs
set_option maxRecDepth 100000 in
set_option maxHeartbeats 4000000 in
theorem createF (O : Nat → Prop) (g M bd bn : Nat) (room armed : Int) (down : Bool) (E : List DEnt) (s : ByteArray) (w : World) (h : DRep O w g M room armed down E) (hd : w.cell? ⟨bd, 0, none⟩ = some (.pointer (some ⟨g, 0, none⟩))) (hn : w.cell? ⟨bn, 0, none⟩ = some (.string s)) (hs : s.size ≤ 9223372036854775807) (hnew : ∀ e ∈ E, e.name ≠ s) (hE : E.length ≤ 100000) (hB : ∀ k, w.heap.size ≤ k → O k) :
    Calls Try.prog 28 #[.pointer (some ⟨bd, 0, none⟩), .pointer (some ⟨bn, 0, none⟩)] w fun x w' => x = .returned (.tuple #[]) ∧ ∃ b, w.heap.size ≤ b ∧ DRep O w' g M room armed down (⟨s, b, ⟨[], 0⟩⟩ :: E) ∧ DFrame O w w' := by
  have H := Aside0.mk h
  have HB := Aside0.mk hB
  have k1 := h.c1
  have k1o := fun o => (h.below (below_alloc (Below.refl _ _) o)).c1
  have hdo := fun o => pw_cell_below (below_alloc (Below.refl _ _) o) hd
  have hno := fun o => pw_cell_below (below_alloc (Below.refl _ _) o) hn
  obtain ⟨D, hm, hD⟩ := h.map
  have hm1 : ((w.alloc (.cells #[.slice none 0 0, .int .i64 0] 60)).drew).ownsMap Try.prog 9 ptrR M E.length D := map_move hm ((below_alloc (Below.refl _ _) _).block M hm.lt)
  obtain ⟨w1, hrun, hm2, hg⟩ := hm1.update string_keyed9 Try.underlying53 (by unfold maxLen; omega) (keyOf_str hs) (val := .pointer (some ⟨w.heap.size, 0, none⟩)) (d := .lit (.int .i64 w.heap.size)) (ps := []) rfl
  have HM := Aside0.mk (show DRep O w1 g M room armed down (⟨s, w.heap.size, ⟨[], 0⟩⟩ :: E) ∧ DFrame O w w1 from by
    have hsz : ((w.alloc (.cells #[.slice none 0 0, .int .i64 0] 60)).drew).heap.size = w.heap.size + 1 := by simp
    have hD' := hD.put s w.heap.size ⟨[], 0⟩
    rw [filter_new hnew] at hD'
    refine ⟨h.put hnew hm2 hD' ((hg.block _ (by rw [hsz]; omega) (by have := h.mlt; simp; omega)).trans (heap_alloc_new _ _)) (hB _ (Nat.le_refl _)) (Nat.le_refl _) (fun k hk hkm => (hg.block k (by rw [hsz]; omega) (by simpa using hkm)).trans ((below_alloc (Below.refl _ _) _).block k hk)), ?_⟩
    exact ((DFrame.of (below_alloc (Below.refl _ _) _)).trans ⟨hg.os, hg.tape, hg.output, hg.size, fun k hk ho => hg.block k hk (fun e => ho (by cases e; exact h.own.2.1))⟩))
  clear h hm hD hm1 hm2 hg hnew hB
  go_enter Try.func28, Try.ntmps28
  go_region
  go_end0
  exact ⟨rfl, _, Nat.le_refl _, HM.out.1, HM.out.2⟩
theorem c_str1 {W : World} {b : Nat} {s : ByteArray} (h : W.heap[b]? = some (.cells #[.string s] 9 (0, 0))) : Kd.C Kd.string W (some ⟨b, 0, none⟩) 1 [s] :=
  ⟨rfl, by decide, fun _ => ⟨_, rfl, fun j p hj => by
    obtain rfl : j = 0 := by
      rcases j with _ | j
      · rfl
      · simp at hj
    simp only [List.getElem?_cons_zero, Option.some.injEq] at hj
    subst hj
    refine ⟨[.string s], rfl, rfl, fun i u hu => ?_⟩
    rcases i with _ | i
    · simp only [List.getElem?_cons_zero, Option.some.injEq] at hu
      subst hu
      rw [show (⟨b, 0, none⟩ : Addr).add (0 * Kd.string.sz + 0) = ⟨b, 0, none⟩ from add_plain _ _, cell_of_row W b 0 _ _ _ h]
      rfl
    · simp at hu⟩⟩
theorem may_one (O : Nat → Prop) (g M : Nat) (room armed : Int) (down there : Bool) (E : List DEnt) (b c : Nat) (s : ByteArray) (w : World) (h : DRep O w g M room armed down E) (hC : w.heap[b]? = some (.cells #[.string s] 9 (0, 0))) (hn : NamedOk s) (hs : s.size ≤ 9223372036854775807) :
    Calls Try.prog 27 #[.pointer (some ⟨g, 0, none⟩), .bool there, .slice (some ⟨b, 0, none⟩) 1 c] w fun e w' => e = .returned (.int .i64 (mayR down there E [s])) ∧ Below w.heap.size w w' :=
  may_calls O g M room armed down there E _ c [s] w h (c_str1 hC) (by simp) (fun x hx => by simp at hx; subst hx; exact hn) (fun x hx => by simp at hx; subst hx; exact hs)
theorem two_boxes (w : World) (a b : Array Value) (s t : TypeId) : ((w.alloc (.cells a s)).alloc (.cells b t)).heap[w.heap.size]? = some (.cells a s (0, 0)) ∧ ((w.alloc (.cells a s)).alloc (.cells b t)).heap[w.heap.size + 1]? = some (.cells b t (0, 0)) := ⟨heap_alloc2_old _ _ _, heap_alloc2_new _ _ _⟩
end Go.Proofs.Ytbndgnbhmifefaa
