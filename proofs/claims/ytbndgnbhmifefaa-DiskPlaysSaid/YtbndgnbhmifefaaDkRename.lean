/- Rename: the closure, and the deed. Conditions: the disk stands where the pointer points; named serves at both names. -/
import Derived.Test.YtbndgnbhmifefaaDkOwns
namespace Go.Proofs.Ytbndgnbhmifefaa
open Go.RowKit Go.Proofs.YtbndgnbhmifefaaW.PrintWords Go.Proofs.YtbndgnbhmifefaaW.PrintMore
set_option linter.unusedVariables false
set_option linter.unusedSimpArgs false
def renE (E : List DEnt) (e : DEnt) (dest : ByteArray) : List DEnt := ⟨dest, e.blk, e.file⟩ :: (E.filter (fun x => decide (x.name ≠ e.name))).filter (fun x => decide (x.name ≠ dest))
theorem renE_mem {E : List DEnt} {e x : DEnt} {dest : ByteArray} (h : x ∈ renE E e dest) (he : e ∈ E) : ∃ y ∈ E, x.blk = y.blk ∧ x.file = y.file := by
  rcases List.mem_cons.1 h with rfl | h
  · exact ⟨e, he, rfl, rfl⟩
  · exact ⟨x, (List.mem_filter.1 (List.mem_filter.1 h).1).1, rfl, rfl⟩
theorem DRep.ren {O : Nat → Prop} {W W' : World} {g M : Nat} {room armed : Int} {down : Bool} {E : List DEnt} (h : DRep O W g M room armed down E) {e : DEnt} (he : e ∈ E) (dest : ByteArray) {D' : DataW Unit} {n : Nat} (hm : W'.ownsMap Try.prog 9 ptrR M n D') (hD : DRel D' (renE E e dest)) (hk : ∀ k, k < W.heap.size → k ≠ M → W'.heap[k]? = W.heap[k]?) :
    DRep O W' g M room armed down (renE E e dest) where
  blk := (hk g h.glt h.ne.1).trans h.blk
  map := ⟨D', map_short hm hD, hD⟩
  files := fun x hx => by
    obtain ⟨y, hy, h1, h2⟩ := renE_mem hx he
    rw [h1, h2]
    exact FileRep.move ((h.files y hy).mono (ok' := Free O g M (renE E e dest)) (fun k ho _ => ⟨ho.1, ho.2.1, ho.2.2.1, fun x' hx' => by obtain ⟨y', hy', h3, _⟩ := renE_mem hx' he; rw [h3]; exact ho.2.2.2 y' hy'⟩)) (hk _ (h.files y hy).lt (h.ne.2 y hy).2) (fun k ho hlt => hk k hlt ho.2.2.1)
  names := by
    unfold renE
    rw [List.map_cons, List.nodup_cons]
    refine ⟨fun hh => ?_, h.names.sublist (List.Sublist.map _ (List.filter_sublist.trans List.filter_sublist))⟩
    obtain ⟨x, hx, h1⟩ := List.mem_map.1 hh
    have := (List.mem_filter.1 hx).2
    simp only [decide_eq_true_eq] at this
    exact this h1
  blks := by
    unfold renE
    rw [List.map_cons, List.nodup_cons]
    refine ⟨fun hh => ?_, h.blks.sublist (List.Sublist.map _ (List.filter_sublist.trans List.filter_sublist))⟩
    obtain ⟨x, hx, h1⟩ := List.mem_map.1 hh
    have h2 := List.mem_filter.1 (List.mem_filter.1 hx).1
    have h3 := nodup_inj h.blks h2.1 he h1
    have h4 := h2.2
    simp only [decide_eq_true_eq] at h4
    exact h4 (by rw [h3])
  ne := ⟨h.ne.1, fun x hx => by obtain ⟨y, hy, h1, _⟩ := renE_mem hx he; rw [h1]; exact h.ne.2 y hy⟩
  own := ⟨h.own.1, h.own.2.1, fun x hx => by obtain ⟨y, hy, h1, _⟩ := renE_mem hx he; rw [h1]; exact h.own.2.2 y hy⟩
set_option maxRecDepth 100000 in
set_option maxHeartbeats 4000000 in
theorem renameF (O : Nat → Prop) (g M bd bn bt : Nat) (room armed : Int) (down : Bool) (E : List DEnt) (e : DEnt) (he : e ∈ E) (dest : ByteArray) (w : World) (h : DRep O w g M room armed down E) (hd : w.cell? ⟨bd, 0, none⟩ = some (.pointer (some ⟨g, 0, none⟩))) (hn : w.cell? ⟨bn, 0, none⟩ = some (.string e.name)) (ht : w.cell? ⟨bt, 0, none⟩ = some (.string dest)) (hOd : ¬ O bd) (hOt : ¬ O bt) (hs : e.name.size ≤ 9223372036854775807) (hst : dest.size ≤ 9223372036854775807) (hE : E.length ≤ 100000) :
    Calls Try.prog 33 #[.pointer (some ⟨bd, 0, none⟩), .pointer (some ⟨bn, 0, none⟩), .pointer (some ⟨bt, 0, none⟩)] w fun x w' => x = .returned (.tuple #[]) ∧ DRep O w' g M room armed down (renE E e dest) ∧ DFrame O w w' := by
  have k1 := h.c1
  have hl := h.lookP (W' := w.drew) he hs rfl
  obtain ⟨D, hm, hD⟩ := h.map
  have hm1 : (w.drew.drew).ownsMap Try.prog 9 ptrR M E.length D := map_move hm rfl
  obtain ⟨w1, hrun, hm2, hg⟩ := hm1.drop string_keyed9 Try.underlying53 (keyOf_str hs) 0
  have hb1 : DFrame O w w1 := (DFrame.of (((Below.refl _ _).drew).trans ((Below.refl _ _).drew))).trans (turned_frame hg h.own.2.1)
  have hm3 : (w1.drew).ownsMap Try.prog 9 ptrR M _ _ := map_move hm2 rfl
  obtain ⟨w2, hrun2, hm4, hg2⟩ := hm3.update string_keyed9 Try.underlying53 (by unfold maxLen; omega) (keyOf_str hst) (val := .pointer (some ⟨e.blk, 0, none⟩)) (d := .lit (.int .i64 e.blk)) (ps := []) rfl
  have k1' : w1.cell? ⟨g, 1, none⟩ = some (.map (some M)) := by
    have := hg.grown.block g (by exact h.glt) (by simpa using fun hh => h.ne.1 hh)
    unfold World.cell? at k1 ⊢
    simp only [this]
    exact k1
  have hd1 := hb1.at hOd hd
  have ht1 := hb1.at hOt ht
  have HM := Aside0.mk (show DRep O w2 g M room armed down (renE E e dest) ∧ DFrame O w w2 from
    ⟨h.ren he dest hm4 ((hD.del e.name).put dest e.blk e.file) (fun k hk hkm => (hg2.block k (by have := hb1.size; exact Nat.lt_of_lt_of_le hk this) (by simpa using hkm)).trans (hg.grown.block k hk (by simpa using hkm))),
      hb1.trans ((DFrame.of ((Below.refl _ _).drew)).trans ⟨hg2.os, hg2.tape, hg2.output, hg2.size, fun k hk ho => hg2.block k hk (fun e => ho (by cases e; exact h.own.2.1))⟩)⟩)
  unfold ptrV at hl
  clear h hm hD hm1 hm2 hm3 hm4 hg hg2 he hb1
  go_enter Try.func33, Try.ntmps33
  go_wp2
  go_region
  go_wp2
  go_region
  go_wp2
  go_region
  go_end0
  exact ⟨rfl, HM.out.1, HM.out.2⟩
end Go.Proofs.Ytbndgnbhmifefaa
