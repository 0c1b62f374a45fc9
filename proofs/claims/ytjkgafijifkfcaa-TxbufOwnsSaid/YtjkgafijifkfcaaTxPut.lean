/- What Put does to a buffer, whatever the event. Conditions: the buffer stands where the pointer points; the event reads so; at most a million events are held. -/
import Derived.Test.YtjkgafijifkfcaaTxPutBegin
import Derived.Test.YtjkgafijifkfcaaTxPutHold
import Derived.Test.YtjkgafijifkfcaaTxPutEnd
import Derived.Test.YtjkgafijifkfcaaTxPutNothing
namespace Go.Proofs.Ytjkgafijifkfcaa
open Go.RowKit Go.Proofs.YtjkgafijifkfcaaW.PrintWords
theorem put_callsO (O : Nat → Prop) (g : Nat) (lim num : Int) (xs : List Ev) (x : Ev) (cs : List Value) (w : World) (hb : BufO O w g lim num xs) (hB : ∀ k, w.heap.size ≤ k → O k) (hK : kEv.K w x cs) (hx : EvOk x) (hl : xs.length ≤ 1000000) :
    Calls Try.prog 22 #[.pointer (some ⟨g, 0, none⟩), .agg cs.toArray] w (ToldO O g w lim (putR lim num xs x)) := by
  have hd : doesFn x.kind = 41 ∨ doesFn x.kind = 42 ∨ doesFn x.kind = 43 ∨ doesFn x.kind = 44 := by
    unfold doesFn
    split
    · exact .inl rfl
    · split
      · exact .inr (.inl rfl)
      · split
        · exact .inr (.inr (.inl rfl))
        · exact .inr (.inr (.inr rfl))
  rcases hd with hd | hd | hd | hd
  · exact put_begin O g lim num xs x cs w hb hB hK hx hl hd
  · exact put_hold O g lim num xs x cs w hb hB hK hx hl hd
  · exact put_end O g lim num xs x cs w hb hB hK hx hl hd
  · exact put_nothing O g lim num xs x cs w hb hB hK hx hl hd
/-- Below block B all is as it was, but for block g. -/
structure FrameB (B g : Nat) (w w' : World) : Prop where
  os : w'.os = w.os
  tape : w'.tape = w.tape
  output : w'.output = w.output
  size : w.heap.size ≤ w'.heap.size
  block : ∀ k, k < B → k ≠ g → w'.heap[k]? = w.heap[k]?
theorem FrameB.trans {B g : Nat} {a b c : World} (h : FrameB B g a b) (k : FrameB B g b c) : FrameB B g a c :=
  ⟨k.os.trans h.os, k.tape.trans h.tape, k.output.trans h.output, Nat.le_trans h.size k.size, fun i hi hg => (k.block i hi hg).trans (h.block i hi hg)⟩
theorem FrameB.below {B g : Nat} {w w' : World} (h : FrameB B g w w') (hg : B ≤ g) : Below B w w' := ⟨h.os, h.tape, h.output, h.size, fun k hk => h.block k hk (by omega)⟩
theorem FrameB.ofO {B g : Nat} {w w' : World} (h : FrameO (fun k => B ≤ k) g w w') (hB : B ≤ w.heap.size) : FrameB B g w w' := ⟨h.os, h.tape, h.output, h.size, fun k hk hg => h.block k (by omega) (by omega) hg⟩
def EvRow (B g : Nat) (W : World) (v : Value) (xs : List Ev) : Prop := EvRowO (fun k => B ≤ k) g W v xs
theorem EvRow.nil (B g : Nat) (W : World) : EvRow B g W (.slice none 0 0) [] := Kd.R_nil _ _ _ _ _
def Buf (B : Nat) (W : World) (g : Nat) (lim num : Int) (xs : List Ev) : Prop := BufO (fun k => B ≤ k) W g lim num xs
def Told (B g : Nat) (w : World) (lim : Int) (p : PR) (e : Ending) (w' : World) : Prop :=
  ∃ v, e = .returned (.tuple #[v, .bool p.t, .int .i64 p.r]) ∧ EvRow B g w' v p.out ∧ Buf B w' g lim p.num p.xs ∧ FrameB B g w w'
theorem put_calls' (B g : Nat) (lim num : Int) (xs : List Ev) (x : Ev) (cs : List Value) (w : World) (hb : Buf B w g lim num xs) (hB : B ≤ w.heap.size) (hK : kEv.K w x cs) (hx : EvOk x) (hl : xs.length ≤ 1000000) :
    Calls Try.prog 22 #[.pointer (some ⟨g, 0, none⟩), .agg cs.toArray] w (Told B g w lim (putR lim num xs x)) :=
  (put_callsO (fun k => B ≤ k) g lim num xs x cs w hb (fun k hk => by omega) hK hx hl).mono fun e w' ⟨v, h1, h2, h3, h4⟩ => ⟨v, h1, h2, h3, FrameB.ofO h4 hB⟩
end Go.Proofs.Ytjkgafijifkfcaa
