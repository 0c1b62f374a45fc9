/- A disk in memory: its block, its map, its files' blocks, their bytes; what writes keep of it. Plain lemmas. -/
import Derived.Test.YtbndgnbhmifefaaDkMay
namespace Go.Proofs.Ytbndgnbhmifefaa
open Go.RowKit Go.Proofs.YtbndgnbhmifefaaW.PrintWords
set_option linter.unusedVariables false
set_option linter.unusedSimpArgs false
abbrev kByt : Kd Int := Kd.int .u8
def DiskBlk (W : World) (g M : Nat) (room armed : Int) (down : Bool) : Prop := W.heap[g]? = some (.cells #[.int .i64 room, .map (some M), .int .i64 armed, .bool down] 55 (0, 0))
def FileBlk (W : World) (b : Nat) (v : Value) (kept : Nat) : Prop := W.heap[b]? = some (.cells #[v, .int .i64 kept] 60 (0, 0))
def FileRep (W : World) (ok : Nat → Prop) (b : Nat) (f : DFile) : Prop := ∃ A c, FileBlk W b (.slice A f.bytes.length c) f.kept ∧ f.bytes.length ≤ c ∧ Kd.F kByt W ok A f.bytes.length f.bytes
/-- blocks of the disk's own that are no cells that it writes: where bytes lie -/
def Free (O : Nat → Prop) (g M : Nat) (E : List DEnt) (k : Nat) : Prop := O k ∧ k ≠ g ∧ k ≠ M ∧ ∀ e ∈ E, k ≠ e.blk
structure DRep (O : Nat → Prop) (W : World) (g M : Nat) (room armed : Int) (down : Bool) (E : List DEnt) : Prop where
  blk : DiskBlk W g M room armed down
  map : ∃ D, W.ownsMap Try.prog 9 ptrR M E.length D ∧ DRel D E
  files : ∀ e ∈ E, FileRep W (Free O g M E) e.blk e.file
  names : (E.map (·.name)).Nodup
  blks : (E.map (·.blk)).Nodup
  ne : g ≠ M ∧ ∀ e ∈ E, e.blk ≠ g ∧ e.blk ≠ M
  own : O g ∧ O M ∧ ∀ e ∈ E, O e.blk
theorem map_short {W : World} {M n : Nat} {D : DataW Unit} {E : List DEnt} (h : W.ownsMap Try.prog 9 ptrR M n D) (hD : DRel D E) : W.ownsMap Try.prog 9 ptrR M E.length D := by
  obtain ⟨es, clock, hb, F, hs, rfl⟩ := h
  refine ⟨es, clock, hb, F, ?_, rfl⟩
  have := hD.size
  rw [Maps.size_eq] at this
  rw [← this, length_sorted]
  simp
theorem map_move {W W' : World} {M n : Nat} {D : DataW Unit} (h : W.ownsMap Try.prog 9 ptrR M n D) (hb : W'.heap[M]? = W.heap[M]?) : W'.ownsMap Try.prog 9 ptrR M n D := by
  obtain ⟨es, clock, h1, F, hs, hD⟩ := h
  exact ⟨es, clock, hb.trans h1, F, hs, hD⟩
theorem FileRep.move {W W' : World} {ok : Nat → Prop} {b : Nat} {f : DFile} (h : FileRep W ok b f) (hb : W'.heap[b]? = W.heap[b]?) (ho : ∀ k, ok k → k < W.heap.size → W'.heap[k]? = W.heap[k]?) : FileRep W' ok b f := by
  obtain ⟨A, c, h1, h2, h3⟩ := h
  exact ⟨A, c, hb.trans h1, h2, Kd.F_step h3 ho⟩
theorem FileRep.lt {W : World} {ok : Nat → Prop} {b : Nat} {f : DFile} (h : FileRep W ok b f) : b < W.heap.size := by
  obtain ⟨A, c, h1, _⟩ := h
  exact (Array.getElem?_eq_some_iff.1 h1).1
theorem FileRep.mono {W : World} {ok ok' : Nat → Prop} {b : Nat} {f : DFile} (h : FileRep W ok b f) (ho : ∀ k, ok k → k < W.heap.size → ok' k) : FileRep W ok' b f := by
  obtain ⟨A, c, h1, h2, h3⟩ := h
  exact ⟨A, c, h1, h2, Kd.F_mono (Kd.F_bound h3) (fun k hk => ho k hk.1 hk.2)⟩
section
variable {O : Nat → Prop} {W W' : World} {g M : Nat} {room armed : Int} {down : Bool} {E : List DEnt}
theorem DRep.glt (h : DRep O W g M room armed down E) : g < W.heap.size := (Array.getElem?_eq_some_iff.1 h.blk).1
theorem DRep.mlt (h : DRep O W g M room armed down E) : M < W.heap.size := by obtain ⟨D, h1, _⟩ := h.map; exact h1.lt
theorem DRep.kept (h : DRep O W g M room armed down E) (hk : ∀ k, O k → k < W.heap.size → W'.heap[k]? = W.heap[k]?) : DRep O W' g M room armed down E where
  blk := (hk g h.own.1 h.glt).trans h.blk
  map := by obtain ⟨D, h1, h2⟩ := h.map; exact ⟨D, map_move h1 (hk M h.own.2.1 h1.lt), h2⟩
  files := fun e he => (h.files e he).move (hk _ (h.own.2.2 e he) (h.files e he).lt) (fun k ho hlt => hk k ho.1 hlt)
  names := h.names
  blks := h.blks
  ne := h.ne
  own := h.own
theorem DRep.below (h : DRep O W g M room armed down E) (hb : Below W.heap.size W W') : DRep O W' g M room armed down E := h.kept (fun k _ hlt => hb.block k hlt)
theorem DRep.mono {O' : Nat → Prop} (h : DRep O W g M room armed down E) (ho : ∀ k, O k → k < W.heap.size → O' k) : DRep O' W g M room armed down E where
  blk := h.blk
  map := h.map
  files := fun e he => (h.files e he).mono (fun k hk hlt => ⟨ho k hk.1 hlt, hk.2⟩)
  names := h.names
  blks := h.blks
  ne := h.ne
  own := ⟨ho g h.own.1 h.glt, ho M h.own.2.1 h.mlt, fun e he => ho _ (h.own.2.2 e he) (h.files e he).lt⟩
/-- a cell of the disk's own block is written -/
theorem DRep.cell (h : DRep O W g M room armed down E) (i : Nat) (v : Value) {room' armed' : Int} {down' : Bool} (hv : (#[Value.int .i64 room, .map (some M), .int .i64 armed, .bool down]).setIfInBounds i v = #[.int .i64 room', .map (some M), .int .i64 armed', .bool down']) :
    DRep O (W.setCell ⟨g, i, none⟩ v) g M room' armed' down' E where
  blk := by unfold DiskBlk; rw [heap_setCell_same W g i _ _ v h.blk, hv]
  map := by obtain ⟨D, h1, h2⟩ := h.map; exact ⟨D, map_move h1 (heap_setCell_other _ _ _ _ (by simp only; exact fun e => h.ne.1 e.symm)), h2⟩
  files := fun e he => (h.files e he).move (heap_setCell_other _ _ _ _ (by simp only; exact (h.ne.2 e he).1)) (fun k ho _ => heap_setCell_other _ _ _ _ (by simp only; exact ho.2.1))
  names := h.names
  blks := h.blks
  ne := h.ne
  own := h.own
end
/-- All that is none of the disk's own is as it was. -/
structure DFrame (O : Nat → Prop) (w w' : World) : Prop where
  os : w'.os = w.os
  tape : w'.tape = w.tape
  output : w'.output = w.output
  size : w.heap.size ≤ w'.heap.size
  block : ∀ k, k < w.heap.size → ¬ O k → w'.heap[k]? = w.heap[k]?
theorem DFrame.refl (O : Nat → Prop) (w : World) : DFrame O w w := ⟨rfl, rfl, rfl, Nat.le_refl _, fun _ _ _ => rfl⟩
theorem DFrame.trans {O : Nat → Prop} {a b c : World} (h : DFrame O a b) (k : DFrame O b c) : DFrame O a c :=
  ⟨k.os.trans h.os, k.tape.trans h.tape, k.output.trans h.output, Nat.le_trans h.size k.size, fun i hi ho => (k.block i (Nat.lt_of_lt_of_le hi h.size) ho).trans (h.block i hi ho)⟩
theorem DFrame.of {O : Nat → Prop} {w w' : World} (h : Below w.heap.size w w') : DFrame O w w' := ⟨h.os, h.tape, h.output, h.size, fun k hk _ => h.block k hk⟩
theorem DFrame.set {O : Nat → Prop} {w w' : World} (h : DFrame O w w') (p : Addr) (v : Value) (hp : O p.block) : DFrame O w (w'.setCell p v) :=
  h.trans ⟨rfl, rfl, rfl, by simp [World.setCell], fun k _ ho => heap_setCell_other _ _ _ _ (fun e => ho (e ▸ hp))⟩
theorem DFrame.grown {O : Nat → Prop} {a w w' : World} {row : Option Nat} (h : DFrame O a w) (hg : w.grownBy w' row) (hr : ∀ k, row = some k → O k) : DFrame O a w' :=
  h.trans ⟨hg.os, hg.tape, hg.output, hg.size, fun k hk ho => hg.block k hk (fun e => ho (hr k e.symm))⟩
theorem DFrame.below {O : Nat → Prop} {B : Nat} {w w' : World} (h : DFrame O w w') (hO : ∀ k, O k → B ≤ k) (hB : B ≤ w.heap.size) : Below B w w' :=
  ⟨h.os, h.tape, h.output, h.size, fun k hk => h.block k (by omega) (fun ho => by have := hO k ho; omega)⟩
theorem DFrame.mono {O O' : Nat → Prop} {w w' : World} (h : DFrame O w w') (hO : ∀ k, O k → O' k) : DFrame O' w w' := ⟨h.os, h.tape, h.output, h.size, fun k hk ho => h.block k hk (fun h1 => ho (hO k h1))⟩
/-- the number of what may tells -/
def hasB (E : List DEnt) (s : ByteArray) : Bool := E.any (fun e => decide (e.name = s))
def mayN (down there bad is : Bool) : Int := bif down then 12 else bif bad then 6 else bif is then (bif there then 0 else 8) else (bif there then 7 else 0)
def mayR (down there : Bool) (E : List DEnt) (names : List ByteArray) : Int := mayN down there (badB names) (hasB E (rdS names 0))
theorem string_keyed9 : Maps.Keyed Try.prog 9 := Maps.string_keyed Try.underlying9
end Go.Proofs.Ytbndgnbhmifefaa
