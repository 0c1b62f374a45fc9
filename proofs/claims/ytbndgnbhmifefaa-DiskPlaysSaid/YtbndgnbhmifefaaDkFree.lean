/- Free: the room less all bytes, in whatever order the map is gone through. Conditions: the disk stands where the pointer points; the numbers fit. -/
import Derived.Test.YtbndgnbhmifefaaDkClos
import Derived.Sort.MapsRangeIn
namespace Go.Proofs.Ytbndgnbhmifefaa
open Go.RowKit Go.Proofs.YtbndgnbhmifefaaW.PrintWords
set_option linter.unusedVariables false
set_option linter.unusedSimpArgs false
def totalE (E : List DEnt) : Nat := (E.map (fun e => e.file.bytes.length)).sum
/-- the bytes of those that have come -/
def cameE (E : List DEnt) (left : Lit → Bool) : Nat := (E.map (fun e => if left (keyL e.name) = true then 0 else e.file.bytes.length)).sum
theorem came_cons (e : DEnt) (E : List DEnt) (left : Lit → Bool) : cameE (e :: E) left = (if left (keyL e.name) = true then 0 else e.file.bytes.length) + cameE E left := by simp [cameE]
theorem total_cons (e : DEnt) (E : List DEnt) : totalE (e :: E) = e.file.bytes.length + totalE E := by simp [totalE]
theorem came_le (left : Lit → Bool) : ∀ E : List DEnt, cameE E left ≤ totalE E
  | [] => Nat.le_refl _
  | e :: E => by
    have := came_le left E
    rw [came_cons, total_cons]
    split <;> omega
theorem came_all {left : Lit → Bool} (h : ∀ k, left k = false) : ∀ E : List DEnt, cameE E left = totalE E
  | [] => rfl
  | e :: E => by
    rw [came_cons, total_cons, came_all h E, h]
    simp
theorem came_none {left : Lit → Bool} : ∀ E : List DEnt, (∀ e ∈ E, left (keyL e.name) = true) → cameE E left = 0
  | [], _ => rfl
  | e :: E, h => by
    rw [came_cons, came_none E (fun e he => h e (List.mem_cons_of_mem _ he)), h e (List.mem_cons_self ..)]
    simp
def struck (left : Lit → Bool) (s : ByteArray) : Lit → Bool := fun z => left z && !z.sameKey (keyL s)
theorem struck_at (left : Lit → Bool) (s t : ByteArray) : struck left s (keyL t) = (left (keyL t) && !decide (t = s)) := by unfold struck; rw [keyL_same]
theorem came_other {left : Lit → Bool} {s : ByteArray} : ∀ E : List DEnt, (∀ e ∈ E, e.name ≠ s) → cameE E (struck left s) = cameE E left
  | [], _ => rfl
  | e :: E, h => by
    rw [came_cons, came_cons, came_other E (fun e he => h e (List.mem_cons_of_mem _ he)), struck_at, decide_eq_false (h e (List.mem_cons_self ..))]
    simp
theorem came_step {left : Lit → Bool} : ∀ {E : List DEnt}, (E.map (·.name)).Nodup → ∀ {e : DEnt}, e ∈ E → left (keyL e.name) = true → cameE E (struck left e.name) = cameE E left + e.file.bytes.length
  | [], _, _, he, _ => by cases he
  | x :: E, hn, e, he, hl => by
    rw [List.map_cons, List.nodup_cons] at hn
    rcases List.mem_cons.1 he with h1 | h1
    · subst h1
      rw [came_cons, came_cons, came_other E (fun e' he' hh => hn.1 (List.mem_map.2 ⟨e', he', hh⟩)), struck_at, hl]
      simp
      omega
    · have h3 : x.name ≠ e.name := fun hh => hn.1 (List.mem_map.2 ⟨e, h1, hh.symm⟩)
      rw [came_cons, came_cons, came_step hn.2 h1 hl, struck_at, decide_eq_false h3]
      simp
      omega
def mkP (c : Option Nat) : Value := .pointer (c.map fun b => ⟨b, 0, none⟩)
theorem keyOf_str_inv {s : ByteArray} {kl : Lit} (h : keyOf Try.prog 9 (.string s) = some kl) : kl = keyL s := by
  simp [keyOf, Try.underlying9, mapKey] at h
  exact h.2.symm
set_option maxRecDepth 100000 in
set_option maxHeartbeats 4000000 in
theorem free_calls (O : Nat → Prop) (g M : Nat) (room armed : Int) (down : Bool) (E : List DEnt) (w : World) (h : DRep O w g M room armed down E) (hr : 0 ≤ room) (hr' : room ≤ 9223372036854775807) (ht : totalE E ≤ 1000000) :
    Calls Try.prog 14 #[.pointer (some ⟨g, 0, none⟩)] w fun e w' => e = .returned (.int .i64 (room - totalE E)) ∧ Below w.heap.size w w' := by
  have k0 := h.c0
  have k1 := h.c1
  have HD := Aside0.mk h
  obtain ⟨D, hm, hD⟩ := h.map
  have HDR := Aside0.mk hD
  clear h hD
  go_enter Try.func14, Try.ntmps14
  go_wp2_with (at_range; refine wpList_range_own _ rfl _ 53 rfl 9 58 string_keyed9 Try.underlying53 _ M E.length D rfl hm ?_; intro w0 hrg0 hg0 hs0)
  go_frame
  have hb0 : Below w.heap.size w w0 := (Below.refl _ _).grown hg0 (Nat.le_refl _) (fun k e => by cases e)
  clear hm
  go_loopw [3] (fun v wr => ∃ left cnt, wr.ranges Try.prog 9 ptrR M w.heap.size E.length D left cnt ∧ v = .int .i64 (room - cameE E left) ∧ (∀ s, left (keyL s) = true → hasB E s = true) ∧ Below w.heap.size w wr) (fun _ wr => wr.rangeLeft M w.heap.size)
  case atStart => exact ⟨_, _, hrg0, by rw [came_none E (fun e he => by rw [HDR.out.has]; exact hasB_of he)]; simp, fun s hs => by rw [← hs]; exact (HDR.out.has s).symm, hb0⟩
  case round =>
    obtain ⟨left, cnt, hrg, rfl, hleft, hbel⟩ := hrel
    have HL := Aside0.mk hleft
    clear hleft hrg0
    have hcl := came_le left E
    have HRG := Aside0.mk hrg
    go_wp2_with (at_next; refine wpList_next_ranges _ rfl _ rfl 9 string_keyed9 ptrR Value.string mkP (fun key kl hk => Maps.keyOf_string_inv Try.underlying9 hk) (fun v y hv => ptrR_some hv) M w.heap.size E.length D left cnt rfl hrg ?_ ?_)
    · intro hc0 hl0
      have HT := Aside0.mk (came_all hl0 E)
      clear hl0 hrg
      go_wp2
      go_ret
      exact ⟨by rw [HT.out]; rfl, hbel⟩
    · intro x c kl a b w' cnt' hkey hl hR hat hrg' hlt hgr hsz hen
      obtain rfl := keyOf_str_inv hkey
      obtain ⟨e, he, rfl⟩ := hasB_ent (HL.out _ hl)
      obtain rfl : a = .lit (.int .i64 e.blk) := (hat .nil).symm.trans (HDR.out.at HD.out.names he .nil)
      have hp := ptrR_inv hR
      rw [hp] at hen ⊢
      have hbel' : Below w.heap.size w w' := hbel.grown hgr hbel.size (fun k e => by cases e; exact Nat.le_refl _)
      obtain ⟨A, cc, hb, hcc, hF⟩ := HD.out.files e he
      have f0 : w'.cell? ⟨e.blk, 0, none⟩ = some (.slice A e.file.bytes.length cc) := pw_cell_below hbel' (cell_of_row w _ 0 _ _ _ hb)
      have HC := Aside0.mk (came_step HD.out.names he hl)
      have hcs : cameE E left + e.file.bytes.length ≤ 1000000 := by rw [← HC.out]; exact Nat.le_trans (came_le _ E) ht
      have HRG' := Aside0.mk hrg'
      have HS := Aside0.mk (fun s (hs : struck left e.name (keyL s) = true) => HL.out s (by rw [struck_at, Bool.and_eq_true] at hs; exact hs.1))
      clear hkey hl hR hat hrg hrg' hb hcc hF hp hgr
      generalize e.file.bytes.length = n at *
      go_wp2
      go_roundw
      case rel => exact ⟨struck left e.name, cnt', HRG'.out, by rw [HC.out]; congr 1; omega, HS.out, hbel'⟩
      case measure => rw [HRG'.out.left_eq, HRG.out.left_eq]; omega
end Go.Proofs.Ytbndgnbhmifefaa
