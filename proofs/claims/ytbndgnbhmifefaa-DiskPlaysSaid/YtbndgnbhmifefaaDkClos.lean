/- What the functions of Sync and Remove do. Conditions: the disk stands where the box points. -/
import Derived.Test.YtbndgnbhmifefaaDkCreate
namespace Go.Proofs.Ytbndgnbhmifefaa
open Go.RowKit Go.Proofs.YtbndgnbhmifefaaW.PrintWords
set_option linter.unusedVariables false
set_option linter.unusedSimpArgs false
def updE (E : List DEnt) (b : Nat) (f : DFile) : List DEnt := E.map (fun e => if e.blk = b then { e with file := f } else e)
theorem updE_map {α : Type} (p : DEnt → α) (hp : ∀ e f, p { e with file := f } = p e) (E : List DEnt) (b : Nat) (f : DFile) : (updE E b f).map p = E.map p := by
  unfold updE
  rw [List.map_map]
  refine List.map_congr_left fun e _ => ?_
  simp only [Function.comp]
  split
  · exact hp e f
  · rfl
theorem updE_mem {E : List DEnt} {b : Nat} {f : DFile} {e : DEnt} (h : e ∈ updE E b f) : ∃ e0 ∈ E, e.name = e0.name ∧ e.blk = e0.blk ∧ (if e0.blk = b then e.file = f else e.file = e0.file) := by
  unfold updE at h
  obtain ⟨e0, h0, rfl⟩ := List.mem_map.1 h
  refine ⟨e0, h0, ?_⟩
  split
  · exact ⟨rfl, rfl, rfl⟩
  · exact ⟨rfl, rfl, rfl⟩
theorem Free.upd {O : Nat → Prop} {g M : Nat} {E : List DEnt} {b : Nat} {f : DFile} {k : Nat} : Free O g M (updE E b f) k ↔ Free O g M E k := by
  unfold Free
  have : (∀ e ∈ updE E b f, k ≠ e.blk) ↔ ∀ e ∈ E, k ≠ e.blk := by
    constructor
    · intro h e he
      have := h (if e.blk = b then { e with file := f } else e) (List.mem_map.2 ⟨e, he, rfl⟩)
      split at this <;> exact this
    · intro h e he
      obtain ⟨e0, h0, _, h2, _⟩ := updE_mem he
      rw [h2]
      exact h e0 h0
  rw [this]
theorem DRep.file {O : Nat → Prop} {W W' : World} {g M : Nat} {room armed : Int} {down : Bool} {E : List DEnt} (h : DRep O W g M room armed down E) {e : DEnt} (he : e ∈ E) (f : DFile) (hf : FileRep W' (Free O g M E) e.blk f) (hk : ∀ k, k < W.heap.size → k ≠ e.blk → W'.heap[k]? = W.heap[k]?) :
    DRep O W' g M room armed down (updE E e.blk f) where
  blk := (hk g h.glt (fun hh => (h.ne.2 e he).1 hh.symm)).trans h.blk
  map := by
    obtain ⟨D, h1, h2⟩ := h.map
    refine ⟨D, ?_, h2.same (updE_map entD (fun _ _ => rfl) E _ f)⟩
    have : (updE E e.blk f).length = E.length := by simp [updE]
    rw [this]
    exact map_move h1 (hk M h1.lt (fun hh => (h.ne.2 e he).2 hh.symm))
  files := fun e' he' => by
    obtain ⟨e0, h0, h1, h2, h3⟩ := updE_mem he'
    rw [h2]
    by_cases hb : e0.blk = e.blk
    · rw [if_pos hb] at h3
      rw [hb, h3]
      exact hf.mono (fun k hk _ => Free.upd.2 hk)
    · rw [if_neg hb] at h3
      rw [h3]
      exact FileRep.move ((h.files e0 h0).mono (fun k hk _ => Free.upd.2 hk)) (hk _ (h.files e0 h0).lt hb) (fun k ho hlt => hk k hlt ((Free.upd.1 ho).2.2.2 e he))
  names := by rw [updE_map (·.name) (fun _ _ => rfl)]; exact h.names
  blks := by rw [updE_map (·.blk) (fun _ _ => rfl)]; exact h.blks
  ne := ⟨h.ne.1, fun e' he' => by obtain ⟨e0, h0, _, h2, _⟩ := updE_mem he'; rw [h2]; exact h.ne.2 e0 h0⟩
  own := ⟨h.own.1, h.own.2.1, fun e' he' => by obtain ⟨e0, h0, _, h2, _⟩ := updE_mem he'; rw [h2]; exact h.own.2.2 e0 h0⟩
theorem DRep.del {O : Nat → Prop} {W W' : World} {g M : Nat} {room armed : Int} {down : Bool} {E : List DEnt} (h : DRep O W g M room armed down E) (s : ByteArray) {n : Nat} {D' : DataW Unit} (hm : W'.ownsMap Try.prog 9 ptrR M n D') (hD : DRel D' (E.filter (fun e => decide (e.name ≠ s)))) (hk : ∀ k, k < W.heap.size → k ≠ M → W'.heap[k]? = W.heap[k]?) :
    DRep O W' g M room armed down (E.filter (fun e => decide (e.name ≠ s))) where
  blk := (hk g h.glt h.ne.1).trans h.blk
  map := ⟨D', map_short hm hD, hD⟩
  files := fun e he => by
    have h0 := (List.mem_filter.1 he).1
    exact FileRep.move ((h.files e h0).mono (fun k ho _ => ⟨ho.1, ho.2.1, ho.2.2.1, fun e' he' => ho.2.2.2 e' (List.mem_filter.1 he').1⟩)) (hk _ (h.files e h0).lt (h.ne.2 e h0).2) (fun k ho hlt => hk k hlt ho.2.2.1)
  names := h.names.sublist (List.Sublist.map _ List.filter_sublist)
  blks := h.blks.sublist (List.Sublist.map _ List.filter_sublist)
  ne := ⟨h.ne.1, fun e he => h.ne.2 e (List.mem_filter.1 he).1⟩
  own := ⟨h.own.1, h.own.2.1, fun e he => h.own.2.2 e (List.mem_filter.1 he).1⟩
set_option maxRecDepth 100000 in
set_option maxHeartbeats 4000000 in
theorem syncF (O : Nat → Prop) (g M bd bn : Nat) (room armed : Int) (down : Bool) (E : List DEnt) (e : DEnt) (he : e ∈ E) (w : World) (h : DRep O w g M room armed down E) (hd : w.cell? ⟨bd, 0, none⟩ = some (.pointer (some ⟨g, 0, none⟩))) (hn : w.cell? ⟨bn, 0, none⟩ = some (.string e.name)) (hs : e.name.size ≤ 9223372036854775807) :
    Calls Try.prog 32 #[.pointer (some ⟨bd, 0, none⟩), .pointer (some ⟨bn, 0, none⟩)] w fun x w' => x = .returned (.tuple #[]) ∧ DRep O w' g M room armed down (updE E e.blk ⟨e.file.bytes, e.file.bytes.length⟩) ∧ DFrame O w w' := by
  have k1 := h.c1
  have hl := h.lookP (W' := w.drew) he hs rfl
  obtain ⟨A, c, hb, hc, hF⟩ := h.files e he
  have f0 : w.cell? ⟨e.blk, 0, none⟩ = some (.slice A e.file.bytes.length c) := cell_of_row w _ 0 _ _ _ hb
  have f1 : w.cell? ⟨e.blk, 1, none⟩ = some (.int .i64 e.file.kept) := cell_of_row w _ 1 _ _ _ hb
  have z1 := frozen_of_row w e.blk 1 _ _ hb
  have HM := Aside0.mk (show DRep O (w.setCell ⟨e.blk, 1, none⟩ (.int .i64 e.file.bytes.length)) g M room armed down (updE E e.blk ⟨e.file.bytes, e.file.bytes.length⟩) ∧ DFrame O w (w.setCell ⟨e.blk, 1, none⟩ (.int .i64 e.file.bytes.length)) from
    ⟨h.file he _ ⟨A, c, heap_setCell_same w e.blk 1 _ _ _ hb, hc, Kd.F_step hF (fun k hk _ => heap_setCell_other _ _ _ _ (by simp only; exact hk.2.2.2 e he))⟩ (fun k _ hk => heap_setCell_other _ _ _ _ (by simpa using hk)), (DFrame.refl _ _).set _ _ (h.own.2.2 e he)⟩)
  unfold ptrV at hl
  clear h he hb hc hF hs
  generalize e.name = nm at *
  generalize e.blk = b at *
  generalize e.file.bytes.length = n at *
  go_enter Try.func32, Try.ntmps32
  go_region
  go_end0
  exact ⟨rfl, HM.out.1.below ((Below.refl _ _).drew), HM.out.2.trans (DFrame.of ((Below.refl _ _).drew))⟩
theorem turned_frame {O : Nat → Prop} {w w' : World} {b : Nat} (h : w.mapTurned w' b) (hb : O b) : DFrame O w w' := (DFrame.refl O w).grown h.grown (fun k hk => by cases hk; exact hb)
set_option maxRecDepth 100000 in
set_option maxHeartbeats 4000000 in
theorem removeF (O : Nat → Prop) (g M bd bn : Nat) (room armed : Int) (down : Bool) (E : List DEnt) (s : ByteArray) (w : World) (h : DRep O w g M room armed down E) (hd : w.cell? ⟨bd, 0, none⟩ = some (.pointer (some ⟨g, 0, none⟩))) (hn : w.cell? ⟨bn, 0, none⟩ = some (.string s)) (hs : s.size ≤ 9223372036854775807) :
    Calls Try.prog 39 #[.pointer (some ⟨bd, 0, none⟩), .pointer (some ⟨bn, 0, none⟩)] w fun x w' => x = .returned (.tuple #[]) ∧ DRep O w' g M room armed down (E.filter (fun e => decide (e.name ≠ s))) ∧ DFrame O w w' := by
  have k1 := h.c1
  obtain ⟨D, hm, hD⟩ := h.map
  have hm1 : (w.drew).ownsMap Try.prog 9 ptrR M E.length D := map_move hm rfl
  obtain ⟨w1, hrun, hm2, hg⟩ := hm1.drop string_keyed9 Try.underlying53 (keyOf_str hs) 0
  have HM := Aside0.mk (show DRep O w1 g M room armed down (E.filter (fun e => decide (e.name ≠ s))) ∧ DFrame O w w1 from
    ⟨h.del s hm2 (hD.del s) (fun k hk hkm => (hg.grown.block k hk (by simpa using hkm))), (DFrame.of ((Below.refl _ _).drew)).trans (turned_frame hg h.own.2.1)⟩)
  clear h hm hD hm1 hm2 hg
  go_enter Try.func39, Try.ntmps39
  go_region
  go_end0
  exact ⟨rfl, HM.out.1, HM.out.2⟩
end Go.Proofs.Ytbndgnbhmifefaa
