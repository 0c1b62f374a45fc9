/- append(v, ys...) where the two slices are of two types: it does what it does at one type. Plain lemma over any program. -/
import Derived.Test.YtjkgafijifkfcaaWWords
import Derived.Conc.Events
namespace Go.Proofs.Ytjkgafijifkfcaa
open Go.RowKit Go.Proofs.YtjkgafijifkfcaaW.PrintWords
theorem bind_eqT {α β : Type} {P : Program} {x : Sem α} {f g : α → Sem β} (h : ∀ a w es, (f a).runT P w es = (g a).runT P w es) (w : World) (es : Array Event) : (x >>= f).runT P w es = (x >>= g).runT P w es := by
  show (x.bind f).runT P w es = (x.bind g).runT P w es
  rw [Sem.runT_bind', Sem.runT_bind']
  generalize x.runT P w es = q
  obtain ⟨r, es'⟩ := q
  cases r with
  | ok a w' => exact h a w' es'
  | halt a w' => rfl
theorem und_eqT {β : Type} {P : Program} {t : TypeId} {d : TypeDesc} (ht : P.underlying t = some d) (f : TypeDesc → Sem β) (w : World) (es : Array Event) : (underlying t >>= f).runT P w es = (f d).runT P w es := by
  show ((underlying t).bind f).runT P w es = _
  rw [Sem.runT_bind']
  simp [underlying, ht]
theorem append_two {P : Program} {t u e e' : TypeId} (ht : P.underlying t = some (.slice e)) (hu : P.underlying u = some (.slice e')) (ty : TypeId) (B : Option Addr) (n k : Nat) (A : Option Addr) (m c : Nat) (W : World) (es : Array Event) :
    (Builtin.append_ #[t, u] ty #[.slice B n k, .slice A m c]).runT P W es = (Builtin.append_ #[t, t] ty #[.slice B n k, .slice A m c]).runT P W es := by
  unfold Builtin.append_
  refine bind_eqT (fun a w es => ?_) W es
  cases a with
  | slice el =>
    refine bind_eqT (fun sz w es => ?_) w es
    refine ((und_eqT hu _ w es).trans ?_).trans (und_eqT ht _ w es).symm
    rfl
  | _ => rfl
theorem wpList_append_two {P : Program} {ops : Array Oper} {rest : List Oper} {o : Oper} {a : Act} {Q : Exit → Act → World → Prop} {W : World} (hgd : o.guard = none) (s x : Operand) {t u e e' : TypeId}
    (ho : o.op = .call { callee := .builtin .append, args := #[s, x], argTypes := #[t, u] }) (ht : P.underlying t = some (.slice e)) (hu : P.underlying u = some (.slice e')) (B : Option Addr) (n k : Nat) (hs : a.eval s = .slice B n k) (A : Option Addr) (m c : Nat) (hx : a.eval x = .slice A m c)
    (h : wpList P ops Q ({ o with op := .call { callee := .builtin .append, args := #[s, x], argTypes := #[t, t] } } :: rest) a W) : wpList P ops Q (o :: rest) a W := by
  have e1 : ∀ es, (execOp a.eval o).runT P W es = (execOp a.eval { o with op := .call { callee := .builtin .append, args := #[s, x], argTypes := #[t, t] } }).runT P W es := by
    intro es
    unfold execOp
    simp only [ho, resolve, invoke, builtin, List.map_toArray, List.map_cons, List.map_nil, hs, hx]
    show ((Builtin.append_ #[t, u] o.type #[.slice B n k, .slice A m c]).bind (fun v => pure (Next.value v))).runT P W es = ((Builtin.append_ #[t, t] o.type #[.slice B n k, .slice A m c]).bind (fun v => pure (Next.value v))).runT P W es
    rw [Sem.runT_bind', Sem.runT_bind', append_two ht hu]
  have e2 : (execOp a.eval o).run P W = (execOp a.eval { o with op := .call { callee := .builtin .append, args := #[s, x], argTypes := #[t, t] } }).run P W := by
    rw [← Sem.runT_fst P _ W #[], ← Sem.runT_fst P _ W #[], e1]
  unfold wpList at h ⊢
  simp only [Region.wanted, hgd, if_true] at h ⊢
  rcases h with h | ⟨⟨h1, h2⟩, h3⟩
  · refine .inl ?_
    unfold Oper.wp at h ⊢
    rw [e2]
    exact h
  · refine .inr ⟨⟨?_, ?_⟩, h3⟩
    · rw [e1]; exact h1
    · rw [e2]; exact h2
theorem R_append_rows_two {P : Program} {ops : Array Oper} {rest : List Oper} {o : Oper} {a : Act} {Q : Exit → Act → World → Prop} {α : Type} (d : Kd α) {Rr : α → List Value → Prop} {w0 W : World} (base : Nat) (hgd : o.guard = none) (s x : Operand) (t u e e' : TypeId) (z : Value) (bytes : Nat)
    (ho : o.op = .call { callee := .builtin .append, args := #[s, x], argTypes := #[t, u] })
    (ht : P.underlying t = some (.slice e)) (hu : P.underlying u = some (.slice e')) (hinfo : (P.info? e).map (fun i => (i.zero, i.size, i.bytes)) = some (some z, d.sz, bytes)) (hz : z.cells.size = d.sz) (hs0 : 0 < d.sz) (hb0 : 0 < bytes)
    (B : Option Addr) (n k : Nat) (xs ys : List α) (A : Option Addr) (m c : Nat) (ok okp : Nat → Prop) (hs : a.eval s = .slice B n k) (hx : a.eval x = .slice A m c)
    (HO : d.R e W base ok (.slice B n k) xs) (HR : ReadsRow Rr d.sz W A m ys) (hKM : ∀ x cs, Rr x cs → d.M W base okp x cs) (hokp : ∀ b, okp b → ok b ∧ some b ≠ (Value.slice B n k).ownBlock) (hfresh : ∀ b, W.heap.size ≤ b → ok b)
    (HB : Below base w0 W) (hbase : base ≤ W.heap.size) (hl : (xs.length + m) * bytes ≤ 140737488355328)
    (h : ∀ v1 w1, d.R e w1 base ok v1 (xs ++ ys) → Below base w0 w1 → W.grownBy w1 (Value.slice B n k).ownBlock → (v1.ownBlock = (Value.slice B n k).ownBlock ∨ ∃ b, v1.ownBlock = some b ∧ W.heap.size ≤ b) → wpList P ops Q rest (a.put o.dst v1) w1) :
    wpList P ops Q (o :: rest) a W :=
  wpList_append_two hgd s x ho ht hu B n k hs A m c hx
    (Kd.R_append_rows d (o := { o with op := .call { callee := .builtin .append, args := #[s, x], argTypes := #[t, t] } }) base hgd s x t e z bytes rfl ht hinfo hz hs0 hb0 _ xs ys A m c ok okp hs hx HO HR hKM hokp hfresh HB hbase hl h)
end Go.Proofs.Ytjkgafijifkfcaa
