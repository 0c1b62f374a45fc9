/- What Put does to a buffer, whatever the event. Conditions: the buffer stands where the pointer points; the event reads so; at most a million events are held. -/
import Derived.Test.YtjkgafijifkfcaaTxHold
import Derived.Deep.RegionWith
namespace Go.Proofs.Ytjkgafijifkfcaa
open Go.RowKit Go.Proofs.YtjkgafijifkfcaaW.PrintWords
set_option linter.unusedVariables false
set_option linter.unusedSimpArgs false

structure PR where
  num : Int
  xs : List Ev
  out : List Ev
  t : Bool
  r : Int
/-- the buffer behind an event, and what is told -/
def putR (lim num : Int) (xs : List Ev) (x : Ev) : PR :=
  if x.kind = 2 then ⟨if num = -1 then x.num else num, xs, [], false, if num = -1 then 0 else 14⟩
  else if x.kind = 3 ∨ x.kind = 4 ∨ x.kind = 5 ∨ x.kind = 6 then (if num = -1 then ⟨num, xs, [], false, 14⟩ else if (xs.length : Int) = lim then ⟨num, xs, [], false, 13⟩ else ⟨num, xs ++ [x], [], false, 0⟩)
  else if x.kind = 7 ∨ x.kind = 8 then (if num = -1 ∨ x.num ≠ num then ⟨num, xs, [], false, 14⟩ else ⟨-1, [], if x.kind = 8 then [] else xs, if x.kind = 8 then false else true, 0⟩)
  else ⟨num, xs, [], false, 0⟩
def ToldO (O : Nat → Prop) (g : Nat) (w : World) (lim : Int) (p : PR) (e : Ending) (w' : World) : Prop := PutTellO O g w lim p.num p.xs p.out p.t p.r e w'

theorem act_calls (O : Nat → Prop) (g : Nat) (lim num : Int) (xs : List Ev) (x : Ev) (cs : List Value) (w : World) (hb : BufO O w g lim num xs) (hB : ∀ k, w.heap.size ≤ k → O k) (hK : kEv.K w x cs) (hx : EvOk x) (hl : xs.length ≤ 1000000) :
    Calls Try.prog (doesFn x.kind) #[.pointer (some ⟨g, 0, none⟩), .agg cs.toArray] w (ToldO O g w lim (putR lim num xs x)) := by
  unfold doesFn putR ToldO
  by_cases h2 : x.kind = 2
  · simp only [if_pos h2]
    exact begin_calls O g lim num xs x cs w hb hB hK
  · simp only [if_neg h2]
    by_cases h3 : x.kind = 3 ∨ x.kind = 4 ∨ x.kind = 5 ∨ x.kind = 6
    · simp only [if_pos h3]
      by_cases hn : num = -1
      · subst hn
        simp only [if_true]
        exact hold_closed O g lim xs x cs w hb hB hK
      · simp only [if_neg hn]
        by_cases hf : (xs.length : Int) = lim
        · simp only [if_pos hf]
          exact hold_full O g lim num xs x cs w hb hB hK hn hf
        · simp only [if_neg hf]
          exact hold_one O g lim num xs x cs w hb hB hK hx hn hf hl
    · simp only [if_neg h3]
      by_cases h7 : x.kind = 7 ∨ x.kind = 8
      · simp only [if_pos h7]
        by_cases hbad : num = -1 ∨ x.num ≠ num
        · simp only [if_pos hbad]
          exact end_bad O g lim num xs x cs w hb hB hK hbad
        · simp only [if_neg hbad]
          exact end_good O g lim num xs x cs w hb hB hK (fun h => hbad (.inl h)) (by
            rcases Classical.em (x.num = num) with h | h
            · exact h
            · exact absurd (.inr h) hbad)
      · simp only [if_neg h7]
        exact nothing_calls O g lim num xs x cs w hb hB hK

theorem ToldO.later {O : Nat → Prop} {g : Nat} {w W : World} {lim : Int} {p : PR} {e : Ending} {w' : World} (h : ToldO O g W lim p e w') (hf : FrameO O g w W) : ToldO O g w lim p e w' := by
  obtain ⟨v, h1, h2, h3, h4⟩ := h
  exact ⟨v, h1, h2, h3, hf.trans h4⟩

theorem ToldO.mk {O : Nat → Prop} {g : Nat} {w w' : World} {lim : Int} {p : PR} (v : Value) (h1 : EvRowO O g w' v p.out) (h2 : BufO O w' g lim p.num p.xs) (h3 : FrameO O g w w') : ToldO O g w lim p (.returned (.tuple #[v, .bool p.t, .int .i64 p.r])) w' := ⟨v, rfl, h1, h2, h3⟩
theorem ToldO.of {O : Nat → Prop} {g : Nat} {w w' : World} {lim : Int} {p : PR} {e : Ending} (v : Value) (he : e = .returned (.tuple #[v, .bool p.t, .int .i64 p.r])) (h1 : EvRowO O g w' v p.out) (h2 : BufO O w' g lim p.num p.xs) (h3 : FrameO O g w w') : ToldO O g w lim p e w' := he ▸ ToldO.mk v h1 h2 h3
end Go.Proofs.Ytjkgafijifkfcaa
