/- What Put does to a buffer, whatever the event. Conditions: the buffer stands where the pointer points; the event reads so; at most a million events are held. -/
import Derived.Test.YtjkgafijifkfcaaTxPutBegin
import Derived.Test.YtjkgafijifkfcaaTxPutHold
import Derived.Test.YtjkgafijifkfcaaTxPutEnd
import Derived.Test.YtjkgafijifkfcaaTxPutNothing
namespace Go.Proofs.Ytjkgafijifkfcaa
open Go.RowKit Go.Proofs.YtjkgafijifkfcaaW.PrintWords
theorem put_calls' (B g : Nat) (lim num : Int) (xs : List Ev) (x : Ev) (cs : List Value) (w : World) (hb : Buf B w g lim num xs) (hB : B ≤ w.heap.size) (hK : kEv.K w x cs) (hx : EvOk x) (hl : xs.length ≤ 1000000) :
    Calls Try.prog 22 #[.pointer (some ⟨g, 0, none⟩), .agg cs.toArray] w (Told B g w lim (putR lim num xs x)) := by
  have hd : doesFn x.kind = 41 ∨ doesFn x.kind = 42 ∨ doesFn x.kind = 43 ∨ doesFn x.kind = 44 := by
    unfold doesFn
    split
    · exact .inl rfl
    · split
      · exact .inr (.inl rfl)
      · split
        · exact .inr (.inr (.inl rfl))
        · exact .inr (.inr (.inr rfl))
  rcases hd with hd | hd | hd | hd
  · exact put_begin B g lim num xs x cs w hb hB hK hx hl hd
  · exact put_hold B g lim num xs x cs w hb hB hK hx hl hd
  · exact put_end B g lim num xs x cs w hb hB hK hx hl hd
  · exact put_nothing B g lim num xs x cs w hb hB hK hx hl hd
end Go.Proofs.Ytjkgafijifkfcaa
