/- Look-ups in a disk's map, and what may tells. Conditions: the disk stands where the pointer points; the names read so, and named serves at each. -/
import Derived.Test.YtbndgnbhmifefaaDkRep
import Derived.StringKeys
import Derived.BigQuiet
import Derived.Deep.QuietTactic
import Derived.RegionTactic
import Derived.Outline
namespace Go.Proofs.Ytbndgnbhmifefaa
open Go.RowKit Go.Proofs.YtbndgnbhmifefaaW.PrintWords
set_option linter.unusedVariables false
set_option linter.unusedSimpArgs false
theorem zeroFile (w : World) : (zeroValue 58).run Try.prog w = .ok (.pointer none) w := by kernel_rfl
def ptrV (b : Nat) : Value := .pointer (some ⟨b, 0, none⟩)
def lookV (E : List DEnt) (s : ByteArray) : Value := match E.find? (fun e => decide (e.name = s)) with | some e => ptrV e.blk | none => .pointer none
theorem lookV_some {E : List DEnt} (hn : (E.map (·.name)).Nodup) {e : DEnt} (he : e ∈ E) : lookV E e.name = ptrV e.blk := by
  unfold lookV
  cases hf : E.find? (fun e' => decide (e'.name = e.name)) with
  | none =>
    have := List.find?_eq_none.1 hf e he
    simp at this
  | some e' =>
    have h1 := List.mem_of_find?_eq_some hf
    have h2 := List.find?_some hf
    simp only [decide_eq_true_eq] at h2
    rw [nodup_inj hn h1 he h2]
theorem lookV_none {E : List DEnt} {s : ByteArray} (h : hasB E s = false) : lookV E s = .pointer none := by
  unfold lookV
  cases hf : E.find? (fun e' => decide (e'.name = s)) with
  | none => rfl
  | some e' =>
    have h1 := List.mem_of_find?_eq_some hf
    have h2 := List.find?_some hf
    unfold hasB at h
    rw [List.any_eq_false] at h
    exact absurd h2 (h e' h1)
theorem hasB_of {E : List DEnt} {e : DEnt} (he : e ∈ E) : hasB E e.name = true := by
  unfold hasB; rw [List.any_eq_true]; exact ⟨e, he, by simp⟩
theorem hasB_ent {E : List DEnt} {s : ByteArray} (h : hasB E s = true) : ∃ e ∈ E, e.name = s := by
  unfold hasB at h; rw [List.any_eq_true] at h; obtain ⟨e, he, h1⟩ := h; exact ⟨e, he, by simpa using h1⟩
theorem hasB_not {E : List DEnt} {s : ByteArray} (h : hasB E s = false) : ∀ e ∈ E, e.name ≠ s := by
  unfold hasB at h; rw [List.any_eq_false] at h; exact fun e he => by simpa using h e he
theorem look_ok {E : List DEnt} {W : World} {M n : Nat} {D : DataW Unit} (h : W.ownsMap Try.prog 9 ptrR M n D) (hD : DRel D E) (hn : (E.map (·.name)).Nodup) {s : ByteArray} (hs : s.size ≤ 9223372036854775807) :
    (Instr.lookup 53 (.map (some M)) (.string s) true).run Try.prog W = .ok (.tuple #[lookV E s, .bool (hasB E s)]) W := by
  obtain ⟨v, ps, hrun, hv⟩ := h.look_ok string_keyed9 Try.underlying53 (zeroFile W) (zd := .nil) (zp := []) rfl (Go.WideMaps.keyOf_string_mk Try.underlying9 hs)
  have hh : Maps.has D (Lit.string s.data.toList) = hasB E s := hD.has s
  rw [hh] at hrun
  rw [hrun]
  cases hb : hasB E s with
  | false =>
    have hat := hD.none (hasB_not hb) .nil
    have hv' : ptrR v = some (.nil, ps) := by rw [hv]; congr 2
    rw [lookV_none hb]
    unfold ptrR at hv'
    split at hv'
    · simp at hv'
    · rfl
    · simp at hv'
  | true =>
    obtain ⟨e, he, rfl⟩ := hasB_ent hb
    have hat := hD.at hn he .nil
    have hv' : ptrR v = some (.lit (.int .i64 e.blk), ps) := by rw [hv]; congr 2
    rw [ptrR_inv hv', lookV_some hn he]
    rfl
theorem look_plain {E : List DEnt} {W : World} {M n : Nat} {D : DataW Unit} (h : W.ownsMap Try.prog 9 ptrR M n D) (hD : DRel D E) (hn : (E.map (·.name)).Nodup) {e : DEnt} (he : e ∈ E) (hs : e.name.size ≤ 9223372036854775807) :
    (Instr.lookup 53 (.map (some M)) (.string e.name) false).run Try.prog W = .ok (ptrV e.blk) W := by
  obtain ⟨v, ps, hrun, hv⟩ := h.lookup string_keyed9 Try.underlying53 (zeroFile W) (zd := .nil) (zp := []) rfl (Go.WideMaps.keyOf_string_mk Try.underlying9 hs)
  have hat := hD.at hn he .nil
  have hv' : ptrR v = some (.lit (.int .i64 e.blk), ps) := by rw [hv]; congr 2
  rw [hrun, ptrR_inv hv']
  rfl
section
variable {O : Nat → Prop} {W W' : World} {g M : Nat} {room armed : Int} {down : Bool} {E : List DEnt}
theorem DRep.look (h : DRep O W g M room armed down E) {s : ByteArray} (hs : s.size ≤ 9223372036854775807) (hb : W'.heap[M]? = W.heap[M]?) : (Instr.lookup 53 (.map (some M)) (.string s) true).run Try.prog W' = .ok (.tuple #[lookV E s, .bool (hasB E s)]) W' := by
  obtain ⟨D, h1, h2⟩ := h.map
  exact look_ok (map_move h1 hb) h2 h.names hs
theorem DRep.lookP (h : DRep O W g M room armed down E) {e : DEnt} (he : e ∈ E) (hs : e.name.size ≤ 9223372036854775807) (hb : W'.heap[M]? = W.heap[M]?) : (Instr.lookup 53 (.map (some M)) (.string e.name) false).run Try.prog W' = .ok (ptrV e.blk) W' := by
  obtain ⟨D, h1, h2⟩ := h.map
  exact look_plain (map_move h1 hb) h2 h.names he hs
theorem DRep.c0 (h : DRep O W g M room armed down E) : W.cell? ⟨g, 0, none⟩ = some (.int .i64 room) := cell_of_row W g 0 _ _ _ h.blk
theorem DRep.c1 (h : DRep O W g M room armed down E) : W.cell? ⟨g, 1, none⟩ = some (.map (some M)) := cell_of_row W g 1 _ _ _ h.blk
theorem DRep.c2 (h : DRep O W g M room armed down E) : W.cell? ⟨g, 2, none⟩ = some (.int .i64 armed) := cell_of_row W g 2 _ _ _ h.blk
theorem DRep.c3 (h : DRep O W g M room armed down E) : W.cell? ⟨g, 3, none⟩ = some (.bool down) := cell_of_row W g 3 _ _ _ h.blk
theorem DRep.free (h : DRep O W g M room armed down E) (i : Nat) : W.frozen? ⟨g, i, none⟩ = false := frozen_of_row W g i _ _ h.blk
end
set_option maxRecDepth 100000 in
set_option maxHeartbeats 4000000 in
theorem may_calls (O : Nat → Prop) (g M : Nat) (room armed : Int) (down there : Bool) (E : List DEnt) (A : Option Addr) (c : Nat) (names : List ByteArray) (w : World) (h : DRep O w g M room armed down E) (hC : Kd.C Kd.string w A names.length names) (h1 : 1 ≤ names.length) (hn : ∀ s ∈ names, NamedOk s) (hs : ∀ s ∈ names, s.size ≤ 9223372036854775807) :
    Calls Try.prog 27 #[.pointer (some ⟨g, 0, none⟩), .bool there, .slice A names.length c] w fun e w' => e = .returned (.int .i64 (mayR down there E names)) ∧ Below w.heap.size w w' := by
  have k1 := h.c1
  have k3 := h.c3
  obtain ⟨ad, eA, d0⟩ := at_str hC 0 h1
  cases eA
  have hz : ad.add 0 = ad := by cases ad; simp [Addr.add]
  rw [hz] at d0
  clear hz
  have hl : ∀ nq, (Instr.lookup 53 (.map (some M)) (.string (rdS names 0)) true).run Try.prog (w.drewN nq) = .ok (.tuple #[lookV E (rdS names 0), .bool (hasB E (rdS names 0))]) (w.drewN nq) := fun nq => h.look (hs _ (rdS_mem h1)) rfl
  have HC := Aside0.mk (fun W hb => contains_calls (some ad) c names W (Kd.C_below hC hb) hn)
  unfold mayR
  obtain ⟨bad, hbad⟩ : ∃ b, badB names = b := ⟨_, rfl⟩
  obtain ⟨is, his⟩ : ∃ b, hasB E (rdS names 0) = b := ⟨_, rfl⟩
  rw [hbad] at HC ⊢
  rw [his] at hl ⊢
  generalize lookV E (rdS names 0) = lv at *
  generalize rdS names 0 = nm at *
  clear hC hn hs h hbad his
  go_enter Try.func27, Try.ntmps27
  go_wp2
  have hi : (0 : Int) < (names.length : Int) := by omega
  go_quiet (fail)
  have hb1 : Below w.heap.size w (w.drewN nq) := pw_below_drewN (Below.refl _ _) _
  have HB1 := Aside0.mk hb1
  cases down
  · have hk3 : (w.drewN nq).cell? ⟨g, 3, none⟩ = some (.bool false) := pw_cell_below hb1 k3
    clear hb1
    cases bad
    · cases is
      · cases there
        all_goals
          go_wp2_with (go_at_call 42; (with_reducible refine (HC.out _ HB1.out).mono ?_); rintro e w1 ⟨rfl, hb2⟩; have HB2 := Aside0.mk (below_more HB1.out hb2); clear hb2)
          go_ret
          exact ⟨rfl, HB2.out⟩
      · cases there
        all_goals
          go_wp2_with (go_at_call 42; (with_reducible refine (HC.out _ HB1.out).mono ?_); rintro e w1 ⟨rfl, hb2⟩; have HB2 := Aside0.mk (below_more HB1.out hb2); clear hb2)
          go_ret
          exact ⟨rfl, HB2.out⟩
    · go_wp2_with (go_at_call 42; (with_reducible refine (HC.out _ HB1.out).mono ?_); rintro e w1 ⟨rfl, hb2⟩; have HB2 := Aside0.mk (below_more HB1.out hb2); clear hb2)
      go_ret
      exact ⟨rfl, HB2.out⟩
  · have hk3 : (w.drewN nq).cell? ⟨g, 3, none⟩ = some (.bool true) := pw_cell_below hb1 k3
    clear hb1
    go_wp2
    go_ret
    exact ⟨rfl, HB1.out⟩
end Go.Proofs.Ytbndgnbhmifefaa
