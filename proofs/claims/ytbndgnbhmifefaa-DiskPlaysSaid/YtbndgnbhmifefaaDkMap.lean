/- A map of names to blocks, as a list of entries: what its datum tells. Plain lemmas: no program in sight. -/
import Derived.Test.YtbndgnbhmifefaaBytes
import Derived.Maps.OwnSet
import Derived.Maps.RangeWalk
import Derived.Sort.KeysCollected
namespace Go.Proofs.Ytbndgnbhmifefaa
open Go.RowKit Go.Proofs.YtbndgnbhmifefaaW.PrintWords
set_option linter.unusedVariables false
set_option linter.unusedSimpArgs false
/-- a file: its bytes, how many are kept -/
structure DFile where
  bytes : List Int
  kept : Nat
/-- an entry of the map: a name, the block where the file lies, the file -/
structure DEnt where
  name : ByteArray
  blk : Nat
  file : DFile
def ptrR : Value → Option (DataW Unit × List MemPlace)
  | .pointer (some ⟨b, 0, none⟩) => some (.lit (.int .i64 b), [])
  | .pointer none => some (.nil, [])
  | _ => none
theorem ptrR_inv {v : Value} {b : Nat} {ps : List MemPlace} (h : ptrR v = some (.lit (.int .i64 b), ps)) : v = .pointer (some ⟨b, 0, none⟩) := by
  unfold ptrR at h
  split at h
  · rename_i c
    simp only [Option.some.injEq, Prod.mk.injEq, DataW.lit.injEq, Lit.int.injEq, true_and] at h
    have : c = b := by omega
    rw [this]
  · simp at h
  · simp at h
theorem ptrR_some {v : Value} {y : DataW Unit × List MemPlace} (h : ptrR v = some y) : ∃ c : Option Nat, v = .pointer (c.map fun b => ⟨b, 0, none⟩) := by
  unfold ptrR at h
  split at h
  · rename_i c
    exact ⟨some c, rfl⟩
  · exact ⟨none, rfl⟩
  · simp at h
def keyL (s : ByteArray) : Lit := .string s.data.toList
theorem keyL_inj {s t : ByteArray} (h : keyL s = keyL t) : s = t := by
  unfold keyL at h
  cases s with
  | mk a =>
    cases t with
    | mk b =>
      simp only [Lit.string.injEq] at h
      congr 1
      exact Array.toList_inj.1 h
theorem keyL_same (s t : ByteArray) : (keyL s).sameKey (keyL t) = decide (s = t) := by
  unfold keyL Lit.sameKey
  by_cases h : s = t
  · subst h; simp
  · have : s.data ≠ t.data := fun he => h (by cases s; cases t; simpa using he)
    simp [h, this]
def entD (e : DEnt) : Lit × DataW Unit := (keyL e.name, .lit (.int .i64 e.blk))
/-- the datum has just these entries -/
def DRel (D : DataW Unit) (E : List DEnt) : Prop := ∃ es, D = .map es ∧ es.Perm (E.map entD)
theorem DRel.nil : DRel (.map []) [] := ⟨[], rfl, .refl _⟩
theorem DRel.isMap {D : DataW Unit} {E : List DEnt} (h : DRel D E) : Maps.IsMap D := by obtain ⟨es, h, _⟩ := h; exact ⟨es, h⟩
theorem DRel.size {D : DataW Unit} {E : List DEnt} (h : DRel D E) : Maps.size D = E.length := by
  obtain ⟨es, rfl, hp⟩ := h
  rw [Maps.size_eq, hp.length_eq, List.length_map]
theorem DRel.has {D : DataW Unit} {E : List DEnt} (h : DRel D E) (s : ByteArray) : Maps.has D (keyL s) = E.any (fun e => decide (e.name = s)) := by
  obtain ⟨es, rfl, hp⟩ := h
  rw [Maps.has_eq]
  have h1 : ∀ l l' : List (Lit × DataW Unit), l.Perm l' → l.any (fun p => p.1.sameKey (keyL s)) = l'.any (fun p => p.1.sameKey (keyL s)) := fun l l' hp => by
    rw [Bool.eq_iff_iff, List.any_eq_true, List.any_eq_true]
    exact ⟨fun ⟨x, hx, h⟩ => ⟨x, hp.mem_iff.1 hx, h⟩, fun ⟨x, hx, h⟩ => ⟨x, hp.mem_iff.2 hx, h⟩⟩
  rw [h1 _ _ hp, List.any_map]
  congr 1
  funext e
  simp only [Function.comp, entD]
  exact keyL_same _ _
theorem nodup_inj {α β : Type} {f : α → β} : ∀ {l : List α}, (l.map f).Nodup → ∀ {a b : α}, a ∈ l → b ∈ l → f a = f b → a = b
  | [], _, _, _, ha, _, _ => by cases ha
  | x :: l, h, a, b, ha, hb, he => by
    rw [List.map_cons, List.nodup_cons] at h
    rcases List.mem_cons.1 ha with h1 | h1
    · rcases List.mem_cons.1 hb with h2 | h2
      · rw [h1, h2]
      · exact (h.1 (List.mem_map.2 ⟨b, h2, by rw [← he, h1]⟩)).elim
    · rcases List.mem_cons.1 hb with h2 | h2
      · exact (h.1 (List.mem_map.2 ⟨a, h1, by rw [he, h2]⟩)).elim
      · exact nodup_inj h.2 h1 h2 he
theorem DRel.at {D : DataW Unit} {E : List DEnt} (h : DRel D E) (hn : (E.map (·.name)).Nodup) {e : DEnt} (he : e ∈ E) (z : DataW Unit) : D.atKey (keyL e.name) z = .lit (.int .i64 e.blk) := by
  obtain ⟨es, rfl, hp⟩ := h
  unfold DataW.atKey
  have hm : entD e ∈ es := hp.mem_iff.2 (List.mem_map.2 ⟨e, he, rfl⟩)
  cases hf : es.find? (fun p => p.1.sameKey (keyL e.name)) with
  | none =>
    have := List.find?_eq_none.1 hf _ hm
    simp [entD, keyL_same] at this
  | some p =>
    have hpm := List.mem_of_find?_eq_some hf
    have hps := List.find?_some hf
    obtain ⟨e', he', rfl⟩ := List.mem_map.1 (hp.mem_iff.1 hpm)
    simp only [entD, keyL_same, decide_eq_true_eq] at hps
    have : e' = e := nodup_inj hn he' he hps
    subst this
    simp only [hf]
    rfl
theorem DRel.none {D : DataW Unit} {E : List DEnt} (h : DRel D E) {s : ByteArray} (hs : ∀ e ∈ E, e.name ≠ s) (z : DataW Unit) : D.atKey (keyL s) z = z := by
  obtain ⟨es, rfl, hp⟩ := h
  unfold DataW.atKey
  cases hf : es.find? (fun p => p.1.sameKey (keyL s)) with
  | none => simp only [hf]
  | some p =>
    have hpm := List.mem_of_find?_eq_some hf
    have hps := List.find?_some hf
    obtain ⟨e', he', rfl⟩ := List.mem_map.1 (hp.mem_iff.1 hpm)
    simp only [entD, keyL_same, decide_eq_true_eq] at hps
    exact absurd hps (hs e' he')
theorem filter_key (E : List DEnt) (s : ByteArray) : (E.map entD).filter (fun p => !p.1.sameKey (keyL s)) = (E.filter (fun e => decide (e.name ≠ s))).map entD := by
  rw [List.filter_map]
  congr 1
  refine List.filter_congr fun e _ => ?_
  simp [entD, keyL_same]
theorem DRel.del {D : DataW Unit} {E : List DEnt} (h : DRel D E) (s : ByteArray) : DRel (D.del (keyL s)) (E.filter (fun e => decide (e.name ≠ s))) := by
  obtain ⟨es, rfl, hp⟩ := h
  exact ⟨_, rfl, filter_key E s ▸ hp.filter _⟩
theorem DRel.put {D : DataW Unit} {E : List DEnt} (h : DRel D E) (s : ByteArray) (b : Nat) (f : DFile) : DRel (D.put (keyL s) (.lit (.int .i64 b))) (⟨s, b, f⟩ :: E.filter (fun e => decide (e.name ≠ s))) := by
  obtain ⟨es, rfl, hp⟩ := h
  refine ⟨_, rfl, (WideShapes.insert_perm _ _).trans ?_⟩
  rw [List.map_cons, ← filter_key]
  exact List.Perm.cons _ (hp.filter _)
theorem DRel.same {D : DataW Unit} {E E' : List DEnt} (h : DRel D E) (he : E'.map entD = E.map entD) : DRel D E' := by
  obtain ⟨es, h1, hp⟩ := h
  exact ⟨es, h1, he ▸ hp⟩
theorem filter_new {E : List DEnt} {s : ByteArray} (hs : ∀ e ∈ E, e.name ≠ s) : E.filter (fun e => decide (e.name ≠ s)) = E := List.filter_eq_self.2 (fun e he => by simpa using hs e he)
end Go.Proofs.Ytbndgnbhmifefaa
