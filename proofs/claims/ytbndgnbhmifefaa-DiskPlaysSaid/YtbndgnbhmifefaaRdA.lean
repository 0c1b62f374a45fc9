/- The reference's disk in memory, and its small calls: New, named, at, goes, Arm. The reference's named and at. The reference's at, Arm, Free, Read. The reference's cut and put: new lists. The reference's put. The reference's list: one element's field is written. -/
import Derived.Test.YtbndgnbhmifefaaDkHas
import Derived.Test.YtbndgnbhmifefaaDkKinds
namespace Go.Proofs.Ytbndgnbhmifefaa
open Go.RowKit Go.Proofs.YtbndgnbhmifefaaW.PrintWords Go.Proofs.YtbndgnbhmifefaaW.PrintMore
set_option linter.unusedVariables false
set_option linter.unusedSimpArgs false
structure RS where
  room : Int
  armed : Int
  gone : Bool
  L : List RF
def RBlk (w : World) (g : Nat) (r : RS) (v : Value) : Prop := w.heap[g]? = some (.cells #[.int .i64 r.room, v, .int .i64 r.armed, .bool r.gone] 64 (0, 0))
structure RRep (Q : Nat → Prop) (w : World) (g : Nat) (r : RS) : Prop where
  rep : ∃ v, RBlk w g r v ∧ Kd.R kRF 69 w 0 (fun k => Q k ∧ k ≠ g) v r.L
  own : Q g
structure RHas (Q : Nat → Prop) (w0 w : World) (g : Nat) (r : RS) : Prop where
  hB : ∀ k, w.heap.size ≤ k → Q k
  frame : DFrame Q w0 w
  rep : RRep Q w g r
theorem RRep.glt {Q : Nat → Prop} {w : World} {g : Nat} {r : RS} (h : RRep Q w g r) : g < w.heap.size := by
  obtain ⟨v, h1, _⟩ := h.rep
  exact (Array.getElem?_eq_some_iff.1 h1).1
theorem RRep.kept {Q : Nat → Prop} {w w' : World} {g : Nat} {r : RS} (h : RRep Q w g r) (hk : ∀ k, Q k → k < w.heap.size → w'.heap[k]? = w.heap[k]?) : RRep Q w' g r := by
  obtain ⟨v, h1, h2⟩ := h.rep
  exact ⟨⟨v, (hk g h.own h.glt).trans h1, Kd.R_step h2 (fun k ho hlt => hk k ho.1 hlt)⟩, h.own⟩
theorem RRep.below {Q : Nat → Prop} {w w' : World} {g : Nat} {r : RS} (h : RRep Q w g r) (hb : Below w.heap.size w w') : RRep Q w' g r := h.kept (fun k _ hlt => hb.block k hlt)
theorem RRep.mono {Q Q' : Nat → Prop} {w : World} {g : Nat} {r : RS} (h : RRep Q w g r) (ho : ∀ k, Q k → k < w.heap.size → Q' k) : RRep Q' w g r := by
  obtain ⟨v, h1, h2⟩ := h.rep
  exact ⟨⟨v, h1, Kd.R_mono (Kd.R_bound h2) (fun k hk => ⟨ho k hk.1.1 hk.2.2.1, hk.1.2⟩)⟩, ho g h.own h.glt⟩
theorem RHas.below {Q : Nat → Prop} {w0 w w' : World} {g : Nat} {r : RS} (h : RHas Q w0 w g r) (hb : Below w.heap.size w w') : RHas Q w0 w' g r :=
  ⟨fun k hk => h.hB k (by have := hb.size; omega), h.frame.trans (DFrame.of hb), h.rep.below hb⟩
/-- a cell of the reference's own block that is no list is written -/
theorem RHas.cell {Q : Nat → Prop} {w0 w : World} {g : Nat} {r r' : RS} (h : RHas Q w0 w g r) (i : Nat) (u : Value) (hL : r'.L = r.L) (hv : ∀ v, (#[Value.int .i64 r.room, v, .int .i64 r.armed, .bool r.gone]).setIfInBounds i u = #[.int .i64 r'.room, v, .int .i64 r'.armed, .bool r'.gone]) :
    RHas Q w0 (w.setCell ⟨g, i, none⟩ u) g r' := by
  obtain ⟨v, h1, h2⟩ := h.rep.rep
  refine ⟨fun k hk => h.hB k (by simpa [World.setCell] using hk), h.frame.set _ _ h.rep.own, ⟨v, ?_, ?_⟩, h.rep.own⟩
  · unfold RBlk; rw [heap_setCell_same w g i _ _ u h1, hv]
  · rw [hL]; exact Kd.R_far h2 (p := ⟨g, i, none⟩) (fun k hk => hk.2) u
theorem max_calls (a b : Int) : ∀ (ats : Array TypeId) (ty : TypeId), Builtin.max_ ats ty #[.int .i64 a, .int .i64 b] = pure (.int .i64 (max a b)) := fun ats ty => by
  rw [max_two]
  simp only [max2_int, pure_bind]
  congr 2
  split <;> omega
set_option maxRecDepth 100000 in
set_option maxHeartbeats 4000000 in
theorem rnew_calls (room : Int) (w : World) : Calls Try.prog 21 #[.int .i64 room] w fun e w' => e = .returned (.pointer (some ⟨w.heap.size, 0, none⟩)) ∧ w' = w.alloc (.cells #[.int .i64 (max room 0), .slice none 0 0, .int .i64 (-1), .bool false] 64) := by
  have m1 := max_calls room 0
  generalize max room 0 = q at *
  go_enter Try.func21, Try.ntmps21
  go_wp2
  go_ret
  exact ⟨rfl, rfl⟩
def foundAt (L : List RF) (s : ByteArray) : Int := match L.findIdx? (fun f => decide (f.name = s)) with | some i => (i : Int) | none => -1
theorem rgoes_calls (Q : Nat → Prop) (w0 : World) (g : Nat) (r : RS) (ha : r.armed ≤ 9223372036854775807) (ha0 : -1 ≤ r.armed) (w : World) (h : RHas Q w0 w g r) :
    Calls Try.prog 48 #[.pointer (some ⟨g, 0, none⟩)] w fun e w' => e = .returned (.bool (decide (r.armed = 0))) ∧ RHas Q w0 w' g (if r.armed = 0 then { r with armed := -1, gone := true } else { r with armed := doA r.armed }) := by
  obtain ⟨v, hb, _⟩ := h.rep.rep
  have c2 : w.cell? ⟨g, 2, none⟩ = some (.int .i64 r.armed) := cell_of_row w _ 2 _ _ _ hb
  have c3 : w.cell? ⟨g, 3, none⟩ = some (.bool r.gone) := cell_of_row w _ 3 _ _ _ hb
  have z2 := frozen_of_row w g 2 _ _ hb
  have z3 := frozen_of_row w g 3 _ _ hb
  have H := Aside0.mk h
  clear h hb
  by_cases h0 : r.armed = 0
  · rw [if_pos h0, decide_eq_true h0]
    have H2 := Aside0.mk ((H.out.cell (r' := { r with gone := true }) 3 (.bool true) rfl (fun v => rfl)).cell (r' := { r with armed := -1, gone := true }) 2 (.int .i64 (-1)) rfl (fun v => rfl))
    rw [h0] at c2
    clear h0
    go_enter Try.func48, Try.ntmps48
    go_wp2
    go_ret
    exact ⟨rfl, H2.out⟩
  · rw [if_neg h0, decide_eq_false h0]
    have h0' : (r.armed == 0) = false := by simpa using h0
    by_cases h1 : 0 < r.armed
    · have hw : wrap64 (r.armed - 1) = r.armed - 1 := by unfold wrap64; omega
      have hd : doA r.armed = r.armed - 1 := by unfold doA; rw [if_pos h1]
      have H2 := Aside0.mk (H.out.cell (r' := { r with armed := r.armed - 1 }) 2 (.int .i64 (r.armed - 1)) rfl (fun v => rfl))
      rw [hd]
      generalize r.armed = a at *
      go_enter Try.func48, Try.ntmps48
      go_wp2
      go_ret
      exact ⟨rfl, H2.out⟩
    · have hd : doA r.armed = r.armed := by unfold doA; rw [if_neg h1]
      rw [hd]
      go_enter Try.func48, Try.ntmps48
      go_wp2
      go_ret
      exact ⟨rfl, H.out⟩
end Go.Proofs.Ytbndgnbhmifefaa
namespace Go.Proofs.Ytbndgnbhmifefaa
open Go.RowKit Go.Proofs.YtbndgnbhmifefaaW.PrintWords Go.Proofs.YtbndgnbhmifefaaW.PrintMore
set_option linter.unusedVariables false
set_option linter.unusedSimpArgs false
theorem sign_tab : ∀ n : Fin 256, signB (UInt8.ofNat n.val) = !((decide (n.val < 97) || decide (122 < n.val)) && ((decide (n.val < 48) || decide (57 < n.val)) && (decide (n.val ≠ 46) && decide (n.val ≠ 45)))) := by decide +kernel
theorem sign_eq (c : UInt8) : signB c = !((decide (c.toNat < 97) || decide (122 < c.toNat)) && ((decide (c.toNat < 48) || decide (57 < c.toNat)) && (decide (c.toNat ≠ 46) && decide (c.toNat ≠ 45)))) := by
  have h := sign_tab ⟨c.toNat, c.toNat_lt⟩
  simpa using h
theorem index_at (s : ByteArray) (k : Nat) (h : k < s.size) (W : World) : (Instr.index 9 (.string s) (.int .i64 (k : Int))).run Try.prog W = .ok (.int .u8 ((s[k]'h).toNat : Int)) W := by
  rw [run_index_string W 9 s .i64 (k : Int) Try.underlying9, dif_pos ⟨by omega, by omega⟩]
  rfl
set_option maxRecDepth 100000 in
set_option maxHeartbeats 8000000 in
theorem rnamed_calls (s : ByteArray) (hs : s.size ≤ 9223372036854775807) (w : World) : Calls Try.prog 46 #[.string s] w fun e w' => e = .returned (.bool (namedB s)) ∧ w' = w := by
  go_enter Try.func46, Try.ntmps46
  go_wp2
  go_loopw [3] (fun v w' => w' = w ∧ ∃ pos : Nat, v = .int .i64 pos ∧ pos ≤ s.size ∧ okTo s pos) (fun v _ => s.size - (intOf v).toNat)
  case atStart => exact ⟨rfl, 0, rfl, by omega, okTo_zero s⟩
  case round =>
    obtain ⟨rfl, pos, rfl, hp, hok⟩ := hrel
    have HOk := Aside0.mk hok
    clear hok
    by_cases hlt : pos < s.size
    · have hx := index_at s pos hlt
      have hsg := sign_eq (s[pos]'hlt)
      have HNext := Aside0.mk (fun h => okTo_succ s pos hlt HOk.out h)
      have HBad := Aside0.mk (fun h => named_bad s pos hlt h)
      generalize hv : (s[pos]'hlt).toNat = v at *
      cases hb : signB (s[pos]'hlt)
      · have hbad := HBad.out hb
        rw [hb] at hsg
        have HBAD := Aside0.mk hbad
        have hq : (decide ((v : Int) < 97) = true ∨ (decide ((v : Int) < 97) = false ∧ decide ((v : Int) > 122) = true)) ∧ (decide ((v : Int) < 48) = true ∨ (decide ((v : Int) < 48) = false ∧ decide ((v : Int) > 57) = true)) ∧ ((v : Int) != 46) = true ∧ ((v : Int) != 45) = true := by
          simp at hsg ⊢
          omega
        clear hsg hb HNext HBad hbad hv
        obtain ⟨q1, q2, q3, q4⟩ := hq
        rcases q1 with q1 | ⟨q1, q1'⟩ <;> rcases q2 with q2 | ⟨q2, q2'⟩
        all_goals (go_wp2; go_ret; exact ⟨by rw [HBAD.out]; rfl, rfl⟩)
      · have hnext := HNext.out hb
        rw [hb] at hsg
        have hq : (decide ((v : Int) < 97) = false ∧ decide ((v : Int) > 122) = false) ∨ ((decide ((v : Int) < 97) = true ∨ (decide ((v : Int) < 97) = false ∧ decide ((v : Int) > 122) = true)) ∧ ((decide ((v : Int) < 48) = false ∧ decide ((v : Int) > 57) = false) ∨ ((decide ((v : Int) < 48) = true ∨ (decide ((v : Int) < 48) = false ∧ decide ((v : Int) > 57) = true)) ∧ (((v : Int) != 46) = false ∨ (((v : Int) != 46) = true ∧ ((v : Int) != 45) = false))))) := by
          simp at hsg ⊢
          omega
        clear hsg hb HNext HBad hv
        have HN := Aside0.mk hnext
        clear hnext
        rcases hq with ⟨q1, q2⟩ | ⟨q1 | ⟨q1, q2⟩, ⟨q3, q4⟩ | ⟨q3 | ⟨q3, q4⟩, q5 | ⟨q5, q6⟩⟩⟩
        all_goals (go_wp2; go_roundw; (case rel => exact ⟨trivial, pos + 1, by go_num, by omega, HN.out⟩); (case measure => simp [intOf]; omega))
    · obtain rfl : pos = s.size := by omega
      have hend := named_end s HOk.out
      have HEnd := Aside0.mk hend
      clear hend
      by_cases h1 : 1 ≤ s.size
      · have q1 : decide ((s.size : Int) ≥ 1) = true := decide_eq_true (by omega)
        have q2 : decide (1 ≤ s.size) = true := decide_eq_true h1
        by_cases h2 : s.size ≤ 20
        · have q3 : decide ((s.size : Int) ≤ 20) = true := decide_eq_true (by omega)
          have q4 : decide (s.size ≤ 20) = true := decide_eq_true h2
          go_wp2
          go_ret
          exact ⟨by rw [HEnd.out, q2, q4]; rfl, rfl⟩
        · have q3 : decide ((s.size : Int) ≤ 20) = false := decide_eq_false (by omega)
          have q4 : decide (s.size ≤ 20) = false := decide_eq_false h2
          go_wp2
          go_ret
          exact ⟨by rw [HEnd.out, q2, q4]; rfl, rfl⟩
      · have q1 : decide ((s.size : Int) ≥ 1) = false := decide_eq_false (by omega)
        have q2 : decide (1 ≤ s.size) = false := decide_eq_false h1
        go_wp2
        go_ret
        exact ⟨by rw [HEnd.out, q2]; rfl, rfl⟩
end Go.Proofs.Ytbndgnbhmifefaa
namespace Go.Proofs.Ytbndgnbhmifefaa
open Go.RowKit Go.Proofs.YtbndgnbhmifefaaW.PrintWords Go.Proofs.YtbndgnbhmifefaaW.PrintMore
set_option linter.unusedVariables false
set_option linter.unusedSimpArgs false
theorem str_eqB (a b : ByteArray) : (a.toList == b.toList) = decide (a = b) := by
  rw [ByteArray.toList_eq, ByteArray.toList_eq]
  by_cases h : a = b
  · subst h; simp
  · rw [decide_eq_false h, beq_eq_false_iff_ne]
    intro he
    exact h (ByteArray.ext (Array.toList_inj.1 he))
theorem found_none {L : List RF} {s : ByteArray} (h : ∀ f ∈ L, f.name ≠ s) : foundAt L s = -1 := by
  unfold foundAt
  rw [List.findIdx?_eq_none_iff.2 (fun f hf => decide_eq_false (h f hf))]
theorem found_some {L : List RF} {s : ByteArray} {k : Nat} (hk : k < L.length) (h1 : (rdRF L k).name = s) (h2 : ∀ j, j < k → (rdRF L j).name ≠ s) : foundAt L s = (k : Int) := by
  unfold foundAt
  have : L.findIdx? (fun f => decide (f.name = s)) = some k := by
    rw [List.findIdx?_eq_some_iff_getElem]
    refine ⟨hk, ?_, fun j hj => ?_⟩
    · have : rdRF L k = L[k] := by unfold rdRF; simp [List.getD_eq_getElem?_getD, hk]
      rw [← this]; exact decide_eq_true h1
    · have hjl : j < L.length := by omega
      have : rdRF L j = L[j] := by unfold rdRF; simp [List.getD_eq_getElem?_getD, hjl]
      rw [← this]; simp [h2 j hj]
  rw [this]
structure RLook (w : World) (g : Nat) (r : RS) (A : Option Addr) (c : Nat) : Prop where
  c0 : w.cell? ⟨g, 0, none⟩ = some (.int .i64 r.room)
  c1 : w.cell? ⟨g, 1, none⟩ = some (.slice A r.L.length c)
  c2 : w.cell? ⟨g, 2, none⟩ = some (.int .i64 r.armed)
  c3 : w.cell? ⟨g, 3, none⟩ = some (.bool r.gone)
  hc : r.L.length ≤ c
  hC : kRF.C w A r.L.length r.L
theorem RRep.look {Q : Nat → Prop} {w : World} {g : Nat} {r : RS} (h : RRep Q w g r) : ∃ A c, RLook w g r A c := by
  obtain ⟨v, h1, h2⟩ := h.rep
  obtain ⟨A, c, rfl, h3, h4⟩ := Kd.R_reads h2
  exact ⟨A, c, cell_of_row w _ 0 _ _ _ h1, cell_of_row w _ 1 _ _ _ h1, cell_of_row w _ 2 _ _ _ h1, cell_of_row w _ 3 _ _ _ h1, h3, h4⟩
set_option maxRecDepth 100000 in
set_option maxHeartbeats 8000000 in
theorem rat_calls {Q : Nat → Prop} (g : Nat) (r : RS) (s : ByteArray) (w : World) (h : RRep Q w g r) :
    Calls Try.prog 47 #[.pointer (some ⟨g, 0, none⟩), .string s] w fun e w' => e = .returned (.int .i64 (foundAt r.L s)) ∧ w' = w := by
  obtain ⟨A, c, hl⟩ := h.look
  clear h
  have c1 := hl.c1
  have HC := Aside0.mk hl.hC
  have hn : r.L.length ≤ 9223372036854775807 := hl.hC.2.1
  clear hl
  generalize r.L = L at *
  go_enter Try.func47, Try.ntmps47
  go_wp2
  go_loopw [5] (fun v w' => w' = w ∧ ∃ k : Nat, v = .int .i64 k ∧ k ≤ L.length ∧ ∀ j, j < k → (rdRF L j).name ≠ s) (fun v _ => L.length - (intOf v).toNat)
  case atStart => exact ⟨rfl, 0, rfl, by omega, fun j hj => by omega⟩
  case round =>
    obtain ⟨rfl, k, rfl, hk, hne⟩ := hrel
    have HNE := Aside0.mk hne
    clear hne
    by_cases hlt : k < L.length
    · obtain ⟨ad, eA, d0, d1, d2⟩ := at_RF HC.out k hlt
      subst eA
      have hs := str_eqB (rdRF L k).name s
      by_cases he : (rdRF L k).name = s
      · have HF := Aside0.mk (found_some hlt he HNE.out)
        rw [decide_eq_true he] at hs
        clear he
        generalize rdRF L k = x at *
        go_wp2
        go_ret
        exact ⟨by rw [HF.out]; rfl, rfl⟩
      · have HN2 := Aside0.mk (show ∀ j, j < k + 1 → (rdRF L j).name ≠ s from fun j hj => by
          rcases Nat.lt_or_ge j k with h | h
          · exact HNE.out j h
          · have : j = k := by omega
            subst this; exact he)
        rw [decide_eq_false he] at hs
        clear he
        generalize rdRF L k = x at *
        go_wp2
        go_roundw
        case rel => exact ⟨trivial, k + 1, by go_num, by omega, HN2.out⟩
        case measure => simp [intOf]; omega
    · obtain rfl : k = L.length := by omega
      have HF := Aside0.mk (show foundAt L s = -1 from found_none (fun f hf => by
        obtain ⟨j, hj, rfl⟩ := List.mem_iff_getElem.1 hf
        have := HNE.out j hj
        unfold rdRF at this
        simpa [List.getD_eq_getElem?_getD, hj] using this))
      go_wp2
      go_ret
      exact ⟨by rw [HF.out]; rfl, rfl⟩
set_option maxRecDepth 100000 in
set_option maxHeartbeats 4000000 in
theorem rarm_calls (Q : Nat → Prop) (w0 : World) (g : Nat) (r : RS) (n : Int) (w : World) (h : RHas Q w0 w g r) :
    Calls Try.prog 35 #[.pointer (some ⟨g, 0, none⟩), .int .i64 n] w fun e w' => e = .returned (.tuple #[]) ∧ RHas Q w0 w' g { r with armed := max n (-1) } := by
  obtain ⟨v, hb, _⟩ := h.rep.rep
  have z2 := frozen_of_row w g 2 _ _ hb
  have c2 : w.cell? ⟨g, 2, none⟩ = some (.int .i64 r.armed) := cell_of_row w _ 2 _ _ _ hb
  have H2 := Aside0.mk (h.cell (r' := { r with armed := max n (-1) }) 2 (.int .i64 (max n (-1))) rfl (fun v => rfl))
  have m1 := max_calls n (-1)
  clear h hb
  generalize max n (-1) = q at *
  go_enter Try.func35, Try.ntmps35
  go_wp2
  go_end0
  exact ⟨rfl, H2.out⟩
def bytesR (L : List RF) : Nat := (L.map (fun f => f.kept.size + f.loose.size)).sum
theorem bytesR_step {L : List RF} {k : Nat} (h : k < L.length) : bytesR (L.take (k + 1)) = bytesR (L.take k) + ((rdRF L k).kept.size + (rdRF L k).loose.size) := by
  unfold bytesR
  rw [List.take_succ_eq_append_getElem h, List.map_append, List.sum_append]
  simp [rdRF, List.getD_eq_getElem?_getD, h]
theorem bytesR_le (L : List RF) (k : Nat) : bytesR (L.take k) ≤ bytesR L := by
  have h : bytesR L = bytesR (L.take k) + bytesR (L.drop k) := by unfold bytesR; rw [← List.sum_append, ← List.map_append, List.take_append_drop]
  omega
set_option maxRecDepth 100000 in
set_option maxHeartbeats 8000000 in
theorem rfree_calls {Q : Nat → Prop} (g : Nat) (r : RS) (w : World) (h : RRep Q w g r) (hr0 : 0 ≤ r.room) (hr : r.room ≤ 1000000) (ht : bytesR r.L ≤ 1000000) :
    Calls Try.prog 38 #[.pointer (some ⟨g, 0, none⟩)] w fun e w' => e = .returned (.int .i64 (r.room - bytesR r.L)) ∧ Below w.heap.size w w' := by
  obtain ⟨A, c, hl⟩ := h.look
  clear h
  have c0 := hl.c0
  have c1 := hl.c1
  have HC := Aside0.mk hl.hC
  have hn : r.L.length ≤ 9223372036854775807 := hl.hC.2.1
  clear hl
  generalize r.L = L at *
  generalize r.room = room at *
  go_enter Try.func38, Try.ntmps38
  go_wp2
  go_loopw [3, 4] (fun m v w' => Below w.heap.size w w' ∧ ∃ k : Nat, v = .int .i64 k ∧ k ≤ L.length ∧ m = .int .i64 (room - bytesR (L.take k))) (fun _ v _ => L.length - (intOf v).toNat)
  case atStart => exact ⟨Below.refl _ _, 0, rfl, by omega, by simp [bytesR]⟩
  case round =>
    obtain ⟨hbel, k, rfl, hk, rfl⟩ := hrel
    replace c0 := pw_cell_below hbel c0
    replace c1 := pw_cell_below hbel c1
    by_cases hlt : k < L.length
    · obtain ⟨ad, eA, d0, d1, d2⟩ := at_RF HC.out k hlt
      subst eA
      replace d0 := pw_cell_below hbel d0
      replace d1 := pw_cell_below hbel d1
      replace d2 := pw_cell_below hbel d2
      have hst := bytesR_step hlt
      have hle := bytesR_le L (k + 1)
      have w1 : wrap64 (room - (bytesR (L.take k) : Int) - ((rdRF L k).kept.size : Int)) = room - (bytesR (L.take k) : Int) - ((rdRF L k).kept.size : Int) := by unfold wrap64; omega
      have w2 : wrap64 (room - (bytesR (L.take k) : Int) - ((rdRF L k).kept.size : Int) - ((rdRF L k).loose.size : Int)) = room - (bytesR (L.take k) : Int) - ((rdRF L k).kept.size : Int) - ((rdRF L k).loose.size : Int) := by unfold wrap64; omega
      have HST := Aside0.mk (show room - (bytesR (L.take k) : Int) - ((rdRF L k).kept.size : Int) - ((rdRF L k).loose.size : Int) = room - (bytesR (L.take (k + 1)) : Int) by rw [hst]; omega)
      have HBel := Aside0.mk hbel
      clear hbel hst hle
      generalize rdRF L k = x at *
      generalize bytesR (L.take k) = y at *
      go_wp2
      go_region
      go_wp2
      go_roundw
      case rel => exact ⟨(HBel.out).drew, k + 1, by go_num, by omega, by rw [← HST.out]; first | rfl | simp [w1, w2]⟩
      case measure => simp [intOf]; omega
    · obtain rfl : k = L.length := by omega
      have HT := Aside0.mk (show L.take L.length = L from List.take_length)
      have HBel := Aside0.mk hbel
      clear hbel
      go_wp2
      go_ret
      exact ⟨by rw [HT.out]; rfl, HBel.out⟩
end Go.Proofs.Ytbndgnbhmifefaa
namespace Go.Proofs.Ytbndgnbhmifefaa
open Go.RowKit Go.Proofs.YtbndgnbhmifefaaW.PrintWords Go.Proofs.YtbndgnbhmifefaaW.PrintMore
set_option linter.unusedVariables false
set_option linter.unusedSimpArgs false
theorem und_fs : Try.prog.underlying 62 = some (.slice (Try.prog.elem 62)) := by
  have h : Try.prog.elem 62 = 69 := by kernel_rfl
  rw [h]; exact Try.underlying62
theorem elem_fs : Try.prog.elem 62 = 69 := by kernel_rfl
theorem size_f (W : World) : (sizeOf 69).run Try.prog W = .ok 3 W := by kernel_rfl
theorem infoRF : (Try.prog.info? 69).map (fun i => (i.zero, i.size, i.bytes)) = some (some (.agg #[.string ⟨#[]⟩, .string ⟨#[]⟩, .string ⟨#[]⟩]), kRF.sz, 48) := by kernel_rfl
theorem fs_head (A : Option Addr) (n c k : Nat) (hk : k ≤ c) (W : World) : (Instr.slice 62 (.slice A n c) none (some (.int .i64 k)) none).run Try.prog W = .ok (.slice A k c) W := by
  rw [run_slice_h W 62 A n c und_fs .i64 k (by omega) (by omega), elem_fs, size_f]
  simp only [sliced, Result.andThen]
  cases A with
  | none => simp
  | some a => obtain ⟨k, o, i⟩ := a; cases i <;> simp [Addr.add]
def tailF (A : Option Addr) (c k : Nat) : Option Addr := if c = k then A else A.map (·.add (k * 3))
theorem fs_tail (A : Option Addr) (n c k : Nat) (hk : k ≤ n) (hc : n ≤ c) (W : World) : (Instr.slice 62 (.slice A n c) (some (.int .i64 k)) none none).run Try.prog W = .ok (.slice (tailF A c k) (n - k) (c - k)) W := by
  rw [run_slice_l W 62 A n c und_fs .i64 k (by omega) (by omega), elem_fs, size_f]
  simp only [sliced, Result.andThen]
  unfold tailF
  simp
theorem fs_take {w : World} {A : Option Addr} {L : List RF} {k : Nat} (h : kRF.C w A L.length L) (hk : k ≤ L.length) : kRF.C w A k (L.take k) := by
  have h2 := Kd.C_take h hk
  rwa [List.length_take, Nat.min_eq_left hk] at h2
theorem fs_drop {w : World} {A : Option Addr} {L : List RF} {c k : Nat} (h : kRF.C w A L.length L) (hk : k ≤ L.length) (hc : L.length ≤ c) : kRF.C w (tailF A c k) (L.length - k) (L.drop k) := by
  have h2 := Kd.C_drop h hk hc
  rwa [List.length_drop] at h2
theorem RHas.made {Q : Nat → Prop} {w0 w w2 : World} {g : Nat} {r : RS} {v : Value} {L' : List RF} (h : RHas Q w0 w g r) (hR : Kd.R kRF 69 w2 w.heap.size (fun k => w.heap.size ≤ k) v L') (hb : Below w.heap.size w w2) :
    RHas Q w0 (w2.setCell ⟨g, 1, none⟩ v) g { r with L := L' } := by
  have hg := h.rep.glt
  obtain ⟨u, h1, _⟩ := h.rep.rep
  have h2 : RBlk w2 g r u := (hb.block g hg).trans h1
  have hB2 : ∀ k, w2.heap.size ≤ k → Q k := fun k hk => h.hB k (by have := hb.size; omega)
  refine ⟨fun k hk => hB2 k (by simpa [World.setCell] using hk), (h.frame.trans (DFrame.of hb)).set _ _ h.rep.own, ⟨v, ?_, ?_⟩, h.rep.own⟩
  · unfold RBlk at h2 ⊢; rw [heap_setCell_same w2 g 1 _ _ v h2]; rfl
  · refine Kd.R_lower (Kd.R_mono (Kd.R_far hR (p := ⟨g, 1, none⟩) (fun k hk => by simp only; omega) v) (fun k hk => ⟨h.hB k hk, by omega⟩)) (Nat.zero_le _)
set_option maxRecDepth 100000 in
set_option maxHeartbeats 8000000 in
theorem rcut_calls (Q : Nat → Prop) (w0 : World) (g : Nat) (r : RS) (k : Nat) (hk : k < r.L.length) (hn : r.L.length ≤ 100000) (w : World) (h : RHas Q w0 w g r) :
    Calls Try.prog 50 #[.pointer (some ⟨g, 0, none⟩), .int .i64 k] w fun e w' => e = .returned (.tuple #[]) ∧ RHas Q w0 w' g { r with L := r.L.take k ++ r.L.drop (k + 1) } := by
  have hg := h.rep.glt
  obtain ⟨A, c, hl⟩ := h.rep.look
  have zz : w.frozen? ⟨g, 1, none⟩ = false := by obtain ⟨v, hb, _⟩ := h.rep.rep; exact frozen_of_row w g 1 _ _ hb
  obtain ⟨v, hb, _⟩ := h.rep.rep
  have HBlk := Aside0.mk hb
  have c1 := hl.c1
  have HC := Aside0.mk hl.hC
  have H := Aside0.mk h
  have hc := hl.hc
  have s1 := fs_head A r.L.length c k (by omega)
  have s2 := fs_tail A r.L.length c (k + 1) (by omega) hc
  rw [show ((k + 1 : Nat) : Int) = (k : Int) + 1 from by omega] at s2
  have hw : wrap64 ((k : Int) + 1) = (k : Int) + 1 := by unfold wrap64; omega
  have HX := Aside0.mk (fs_take HC.out (show k ≤ r.L.length by omega))
  have HY := Aside0.mk (fs_drop (k := k + 1) HC.out (by omega) hc)
  have hl1 : (r.L.take k).length ≤ 100000 := by rw [List.length_take]; omega
  generalize tailF A c (k + 1) = A' at *
  generalize r.L.take k = X at *
  generalize r.L.drop (k + 1) = Y at *
  generalize hm : r.L.length - (k + 1) = m at *
  obtain ⟨Z, hZ⟩ : ∃ Z, X ++ Y = Z := ⟨_, rfl⟩
  rw [hZ]
  have HZ := Aside0.mk hZ
  clear hZ
  have HM := Aside0.mk (fun (v : Value) (w2 : World) (h1 : Kd.R kRF 69 w2 w.heap.size (fun k => w.heap.size ≤ k) v Z) (h2 : Below w.heap.size w w2) => H.out.made h1 h2)
  clear h hb hl
  go_enter Try.func50, Try.ntmps50
  go_upto_region 2 with (at_builtin; refine Kd.R_append_rows kRF (w0 := w) w.heap.size rfl (.tmp 5) (.tmp 11) 62 69 (.agg #[.string ⟨#[]⟩, .string ⟨#[]⟩, .string ⟨#[]⟩]) 48 rfl Try.underlying62 infoRF rfl (by decide) (by decide) (.slice none 0 0) [] X A k c (fun k => w.heap.size ≤ k) (fun _ => False) rfl rfl (Kd.R_nil _ _ _ _ _) HX.out (fun x cs h => by obtain rfl := kRF_open h; exact kRF_mkM _ _ _ _) (fun k hk => hk.elim) (fun _ hk => hk) (Below.refl _ _) (Nat.le_refl _) (by simp; omega) ?_; intro v1 w1 hR1 hb1 hg1 hat1)
  rw [List.nil_append] at hR1
  obtain ⟨A1, k1, rfl⟩ := Kd.R_slice hR1
  have HR1 := Aside0.mk hR1
  have HB1 := Aside0.mk hb1
  clear hR1 hg1 hat1
  replace c1 := pw_cell_below hb1 c1
  clear hb1
  go_wp2_with (at_builtin; refine Kd.R_append_rows kRF (w0 := w) w.heap.size rfl (.tmp 14) (.tmp 21) 62 69 (.agg #[.string ⟨#[]⟩, .string ⟨#[]⟩, .string ⟨#[]⟩]) 48 rfl Try.underlying62 infoRF rfl (by decide) (by decide) (.slice A1 X.length k1) X Y A' m (c - (k + 1)) (fun k => w.heap.size ≤ k) (fun _ => False) rfl rfl HR1.out (Kd.C_below HY.out HB1.out) (fun x cs h => by obtain rfl := kRF_open h; exact kRF_mkM _ _ _ _) (fun k hk => hk.elim) (fun _ hk => by have := HB1.out.size; omega) HB1.out HB1.out.size (by omega) ?_; intro v2 w2 hR2 hb2 hg2 hat2; rw [HZ.out] at hR2; obtain ⟨A2, k2, rfl⟩ := Kd.R_slice hR2; have HF := Aside0.mk (HM.out _ w2 hR2 hb2); have zz2 : w2.frozen? ⟨g, 1, none⟩ = false := frozen_of_row w2 g 1 _ _ ((hb2.block g hg).trans HBlk.out); have c12 := pw_cell_below hb2 (cell_of_row w _ 1 _ _ _ HBlk.out); clear hR2 hg2 hat2 hb2)
  go_end0
  exact ⟨rfl, HF.out⟩
end Go.Proofs.Ytbndgnbhmifefaa
namespace Go.Proofs.Ytbndgnbhmifefaa
open Go.RowKit Go.Proofs.YtbndgnbhmifefaaW.PrintWords Go.Proofs.YtbndgnbhmifefaaW.PrintMore
set_option linter.unusedVariables false
set_option linter.unusedSimpArgs false
def gtS (a b : ByteArray) : Bool := !(Op.bytesLess a.toList b.toList || a.toList == b.toList)
theorem gt_op (a b : ByteArray) (t : TypeId) : binOp .gtr t (.string a) (.string b) = pure (.bool (gtS a b)) := by simp [binOp, Op.stringOp, gtS]
structure PutAt (L : List RF) (s : ByteArray) (k : Nat) : Prop where
  le : k ≤ L.length
  hi : ∀ j, k ≤ j → j < L.length → gtS (rdRF L j).name s = true
  lo : k = 0 ∨ gtS (rdRF L (k - 1)).name s = false
set_option maxRecDepth 100000 in
set_option maxHeartbeats 8000000 in
theorem rput_calls (Q : Nat → Prop) (w0 : World) (g : Nat) (r : RS) (f : RF) (hn : r.L.length ≤ 100000) (w : World) (h : RHas Q w0 w g r) :
    Calls Try.prog 49 #[.pointer (some ⟨g, 0, none⟩), .agg #[.string f.name, .string f.kept, .string f.loose]] w fun e w' => e = .returned (.tuple #[]) ∧ ∃ k, PutAt r.L f.name k ∧ RHas Q w0 w' g { r with L := r.L.take k ++ f :: r.L.drop k } := by
  have hg := h.rep.glt
  obtain ⟨A, c, hl⟩ := h.rep.look
  obtain ⟨v, hb, _⟩ := h.rep.rep
  have c1w := hl.c1
  have HC := Aside0.mk hl.hC
  have H := Aside0.mk (h.below (below_alloc (Below.refl _ _) (.cells #[.string f.name, .string f.kept, .string f.loose] 69)))
  have hc := hl.hc
  clear hl
  have hbw := below_alloc (Below.refl w.heap.size w) (.cells #[.string f.name, .string f.kept, .string f.loose] 69)
  have HBlk := Aside0.mk ((hbw.block g hg).trans hb)
  have hf1 := heap_alloc_new w (.cells #[.string f.name, .string f.kept, .string f.loose] 69)
  have hs1 : (w.alloc (.cells #[.string f.name, .string f.kept, .string f.loose] 69)).heap.size = w.heap.size + 1 := by simp
  go_enter Try.func49, Try.ntmps49
  go_upto_region 1 with fail
  generalize w.alloc (.cells #[.string f.name, .string f.kept, .string f.loose] 69) = w1 at *
  have c1 := pw_cell_below hbw c1w
  have f0 : w1.cell? ⟨w.heap.size, 0, none⟩ = some (.string f.name) := cell_of_row w1 _ 0 _ _ _ hf1
  have HC1 := Aside0.mk (Kd.C_below HC.out hbw)
  have HF1 := Aside0.mk hf1
  have hg1 : g < w1.heap.size := by omega
  clear c1w hb h hf1 hbw
  go_upto_block 0 with fail
  go_cut [4] (fun m w' => Below w1.heap.size w1 w' ∧ ∃ k : Nat, m = .int .i64 k ∧ PutAt r.L f.name k)
  case first =>
    go_wp2_with fail
    go_loopw [4] (fun m w' => Below w1.heap.size w1 w' ∧ ∃ k : Nat, m = .int .i64 k ∧ k ≤ r.L.length ∧ ∀ j, k ≤ j → j < r.L.length → gtS (rdRF r.L j).name f.name = true) (fun m _ => (intOf m).toNat)
    case atStart => exact ⟨Below.refl _ _, r.L.length, rfl, by omega, fun j h1 h2 => by omega⟩
    case round =>
      obtain ⟨hbel, k, rfl, hk, hhi⟩ := hrel
      have HBel := Aside0.mk hbel
      have HHi := Aside0.mk hhi
      replace c1 := pw_cell_below hbel c1
      replace f0 := pw_cell_below hbel f0
      clear hbel hhi
      rcases k with _ | j
      · have HP := Aside0.mk (⟨by omega, fun j _ h2 => HHi.out j (by omega) h2, .inl rfl⟩ : PutAt r.L f.name 0)
        go_wp2_with fail
        go_region
        go_wp2_with fail
        go_meet
        case rel => exact ⟨HBel.out.drew, 0, rfl, HP.out⟩
      · obtain ⟨ad, eA, d0, d1, d2⟩ := at_RF HC1.out j (by omega)
        subst eA
        replace d0 := pw_cell_below HBel.out d0
        clear d1 d2
        have hw1 : IntKind.i64.wrap ((j : Int) + 1 - 1) = (j : Int) := by rw [IntKind.wrap_i64]; omega
        have hw2 : IntKind.i64.wrap (j : Int) = (j : Int) := by rw [IntKind.wrap_i64]; omega
        have HG := Aside0.mk (show gtS (rdRF r.L j).name f.name = true → ∀ i, j ≤ i → i < r.L.length → gtS (rdRF r.L i).name f.name = true from fun h i h1 h2 => by
          rcases Nat.lt_or_ge j i with h3 | h3
          · exact HHi.out i (by omega) h2
          · have : i = j := by omega
            subst this; exact h)
        have HP := Aside0.mk (fun (h : gtS (rdRF r.L j).name f.name = false) => (⟨hk, HHi.out, .inr h⟩ : PutAt r.L f.name (j + 1)))
        generalize rdRF r.L j = x at *
        generalize r.L.length = n at *
        have hj0 : (0 : Int) ≤ (j : Int) := by omega
        have hj1 : (j : Int) < (n : Int) := by omega
        have hj2 : ((j : Int)).toNat = j := by omega
        have hbo := gt_op x.name f.name
        cases hq : gtS x.name f.name
        · have HP2 := Aside0.mk (HP.out hq)
          rw [hq] at hbo
          clear hq
          go_wp2_with fail
          go_region_held3 (fun W => W.cell? ⟨g, 1, none⟩ = some (.slice (some ad) n c) ∧ W.cell? ⟨w.heap.size, 0, none⟩ = some (.string f.name) ∧ W.cell? (ad.add (j * 3)) = some (.string x.name))
            (first | exact ⟨c1, f0, d0⟩ | go_keep) (fail)
          go_wp2_with fail
          go_meet
          case rel => exact ⟨HBel.out.drew, j + 1, by go_num, HP2.out⟩
        · have HG2 := Aside0.mk (HG.out hq)
          rw [hq] at hbo
          clear hq
          go_wp2_with fail
          go_region_held3 (fun W => W.cell? ⟨g, 1, none⟩ = some (.slice (some ad) n c) ∧ W.cell? ⟨w.heap.size, 0, none⟩ = some (.string f.name) ∧ W.cell? (ad.add (j * 3)) = some (.string x.name))
            (first | exact ⟨c1, f0, d0⟩ | go_keep) (fail)
          go_wp2_with fail
          go_roundw
          case rel => exact ⟨HBel.out.drew, j, by go_num, by omega, HG2.out⟩
          case measure => simp [intOf]
  obtain ⟨hbw, k, rfl, hp⟩ := hcut
  have HH := Aside0.mk (H.out.below hbw)
  have HC2 := Aside0.mk (Kd.C_below HC1.out hbw)
  have hgz : g < wc.heap.size := by have := hbw.size; omega
  have HBz := Aside0.mk ((hbw.block g hg1).trans HBlk.out)
  have HFz := Aside0.mk ((hbw.block w.heap.size (by omega)).trans HF1.out)
  have hfz : w.heap.size < wc.heap.size := by have := hbw.size; omega
  replace c1 := pw_cell_below hbw c1
  have C1 := Aside0.mk c1
  clear f0 hbw H HC HC1 HBlk HF1
  have hkl := hp.le
  have s1 := fs_head A r.L.length c k (by omega)
  have s2 := fs_tail A r.L.length c k (by omega) hc
  have HX := Aside0.mk (fs_take HC2.out hkl)
  have HY := Aside0.mk (fs_drop HC2.out hkl hc)
  have hl1 : (r.L.take k).length ≤ 100000 := by rw [List.length_take]; omega
  have HP := Aside0.mk hp
  clear hp
  have HM := Aside0.mk (fun (v : Value) (w2 : World) (h1 : Kd.R kRF 69 w2 wc.heap.size (fun k => wc.heap.size ≤ k) v (r.L.take k ++ f :: r.L.drop k)) (h2 : Below wc.heap.size wc w2) => (⟨k, HP.out, HH.out.made h1 h2⟩ : ∃ k, PutAt r.L f.name k ∧ RHas Q w0 (w2.setCell ⟨g, 1, none⟩ v) g { r with L := r.L.take k ++ f :: r.L.drop k }))
  generalize tailF A c k = A' at *
  obtain ⟨Z, hZ⟩ : ∃ Z, r.L.take k ++ f :: r.L.drop k = Z := ⟨_, rfl⟩
  rw [hZ] at HM
  obtain ⟨X, hX⟩ : ∃ X, r.L.take k = X := ⟨_, rfl⟩
  obtain ⟨Y, hY⟩ : ∃ Y, r.L.drop k = Y := ⟨_, rfl⟩
  obtain ⟨X', hX'⟩ : ∃ X', X ++ [f] = X' := ⟨_, rfl⟩
  rw [hX] at HX hl1 hZ
  rw [hY] at HY hZ
  have hZ' : X' ++ Y = Z := by rw [← hX', ← hZ]; simp
  have hl2 : X'.length ≤ 100001 := by rw [← hX']; simp; omega
  have HZ := Aside0.mk hZ'
  have HX' := Aside0.mk hX'
  clear hX hY hZ hX' hZ'
  generalize hm : r.L.length - k = m at *
  go_upto_region 6 with (at_builtin; refine Kd.R_append_rows kRF (w0 := wc) wc.heap.size rfl (.tmp 29) (.tmp 35) 62 69 (.agg #[.string ⟨#[]⟩, .string ⟨#[]⟩, .string ⟨#[]⟩]) 48 rfl Try.underlying62 infoRF rfl (by decide) (by decide) (.slice none 0 0) [] X A k c (fun k => wc.heap.size ≤ k) (fun _ => False) rfl rfl (Kd.R_nil _ _ _ _ _) HX.out (fun x cs h => by obtain rfl := kRF_open h; exact kRF_mkM _ _ _ _) (fun k hk => hk.elim) (fun _ hk => hk) (Below.refl _ _) (Nat.le_refl _) (by simp; omega) ?_; intro v1 w2 hR1 hb1 hg1 hat1)
  rw [List.nil_append] at hR1
  obtain ⟨A1, k1, rfl⟩ := Kd.R_slice hR1
  have HR1 := Aside0.mk hR1
  have HB1 := Aside0.mk hb1
  clear hR1 hg1 hat1
  replace c1 := pw_cell_below hb1 c1
  have hf2 := (hb1.block w.heap.size hfz).trans HFz.out
  have f0 : w2.cell? ⟨w.heap.size, 0, none⟩ = some (.string f.name) := cell_of_row w2 _ 0 _ _ _ hf2
  have f1 : w2.cell? ⟨w.heap.size, 1, none⟩ = some (.string f.kept) := cell_of_row w2 _ 1 _ _ _ hf2
  have f2 : w2.cell? ⟨w.heap.size, 2, none⟩ = some (.string f.loose) := cell_of_row w2 _ 2 _ _ _ hf2
  clear hb1 hf2
  go_upto_region 7 with (at_builtin; refine Kd.R_append kRF (w0 := wc) (W := w2) wc.heap.size rfl (.tmp 37) (.tmp 39) 62 69 (.agg #[.string ⟨#[]⟩, .string ⟨#[]⟩, .string ⟨#[]⟩]) 48 rfl Try.underlying62 infoRF rfl (by decide) (by decide) (.slice A1 X.length k1) X f [.string f.name, .string f.kept, .string f.loose] (fun k => wc.heap.size ≤ k) (fun _ => False) rfl rfl (kRF_mkM _ _ _ _) (fun k hk => hk.elim) (fun _ hk => by have := HB1.out.size; omega) HR1.out HB1.out HB1.out.size (by omega) ?_; intro v2 w3 hR2 hb2 hg2 hat2)
  rw [HX'.out] at hR2
  obtain ⟨A2, k2, rfl⟩ := Kd.R_slice hR2
  have HR2 := Aside0.mk hR2
  have HB2 := Aside0.mk hb2
  have c13 := pw_cell_below hb2 C1.out
  clear hR2 hg2 hat2 hb2 f0 f1 f2 c1
  go_wp2_with (at_builtin; refine Kd.R_append_rows kRF (w0 := wc) wc.heap.size rfl (.tmp 42) (.tmp 48) 62 69 (.agg #[.string ⟨#[]⟩, .string ⟨#[]⟩, .string ⟨#[]⟩]) 48 rfl Try.underlying62 infoRF rfl (by decide) (by decide) (.slice A2 X'.length k2) X' Y A' m (c - k) (fun k => wc.heap.size ≤ k) (fun _ => False) rfl rfl HR2.out (Kd.C_below HY.out HB2.out) (fun x cs h => by obtain rfl := kRF_open h; exact kRF_mkM _ _ _ _) (fun k hk => hk.elim) (fun _ hk => by have := HB2.out.size; omega) HB2.out HB2.out.size (by omega) ?_; intro v4 w4 hR4 hb4 hg4 hat4; rw [HZ.out] at hR4; obtain ⟨A4, k4, rfl⟩ := Kd.R_slice hR4; have HF := Aside0.mk (HM.out _ w4 hR4 hb4); have zz2 : w4.frozen? ⟨g, 1, none⟩ = false := frozen_of_row w4 g 1 _ _ ((hb4.block g hgz).trans HBz.out); have c14 := pw_cell_below hb4 C1.out; clear hR4 hg4 hat4 hb4)
  go_end0
  exact ⟨rfl, HF.out⟩
end Go.Proofs.Ytbndgnbhmifefaa
namespace Go.Proofs.Ytbndgnbhmifefaa
open Go.RowKit Go.Proofs.YtbndgnbhmifefaaW.PrintWords Go.Proofs.YtbndgnbhmifefaaW.PrintMore
set_option linter.unusedVariables false
set_option linter.unusedSimpArgs false
structure RElem (Q : Nat → Prop) (w0 w : World) (g : Nat) (r : RS) (k b c : Nat) : Prop where
  c1 : w.cell? ⟨g, 1, none⟩ = some (.slice (some ⟨b, 0, none⟩) r.L.length c)
  d0 : w.cell? ⟨b, k * 3, none⟩ = some (.string (rdRF r.L k).name)
  d1 : w.cell? ⟨b, k * 3 + 1, none⟩ = some (.string (rdRF r.L k).kept)
  d2 : w.cell? ⟨b, k * 3 + 2, none⟩ = some (.string (rdRF r.L k).loose)
  f0 : w.frozen? ⟨b, k * 3, none⟩ = false
  f1 : w.frozen? ⟨b, k * 3 + 1, none⟩ = false
  f2 : w.frozen? ⟨b, k * 3 + 2, none⟩ = false
  ne : b ≠ g
  s1 : ∀ s : ByteArray, RHas Q w0 (w.setCell ⟨b, k * 3 + 1, none⟩ (.string s)) g { r with L := r.L.set k { rdRF r.L k with kept := s } }
  s2 : ∀ s : ByteArray, RHas Q w0 (w.setCell ⟨b, k * 3 + 2, none⟩ (.string s)) g { r with L := r.L.set k { rdRF r.L k with loose := s } }
theorem RHas.elem {Q : Nat → Prop} {w0 w : World} {g : Nat} {r : RS} (h : RHas Q w0 w g r) {k : Nat} (hk : k < r.L.length) : ∃ b c, RElem Q w0 w g r k b c := by
  obtain ⟨v, h1, h2⟩ := h.rep.rep
  obtain ⟨b, c, rfl, _, hbl, _⟩ := Kd.R_form h2 (by omega)
  have hown := h2.1 b (by simp [Value.ownBlock])
  obtain ⟨cs, hcl, hM, hcell, hfz⟩ := Kd.R_elem h2 zRF (k : Int) (by omega) (by omega)
  rw [Int.toNat_natCast] at hM hcell hfz
  have hM' : kRF.M w 0 (fun j => (Q j ∧ j ≠ g) ∧ j ≠ b) (rdRF r.L k) cs := hM
  obtain rfl := kRF_openM hM'
  have hput : ∀ (j : Nat) (s : ByteArray) (x' : RF), j < 3 → kRF.M w 0 (fun _ => False) x' (([Value.string (rdRF r.L k).name, .string (rdRF r.L k).kept, .string (rdRF r.L k).loose].take j ++ [.string s] ++ [Value.string (rdRF r.L k).name, .string (rdRF r.L k).kept, .string (rdRF r.L k).loose].drop (j + 1))) →
      RHas Q w0 (w.setCell ⟨b, k * 3 + j, none⟩ (.string s)) g { r with L := r.L.set k x' } := by
    intro j s x' hj hm
    obtain ⟨h3, h4⟩ := Kd.R_seg h2 (k : Int) (by omega) (by omega) (c := [.string (rdRF r.L k).name, .string (rdRF r.L k).kept, .string (rdRF r.L k).loose]) (seg := [.string s]) (j := j) rfl (fun i u hu => by rw [Int.toNat_natCast]; exact hcell i u hu) (by show j + 1 ≤ 3; omega) hm (fun k hk => hk.elim)
    rw [Int.toNat_natCast] at h3 h4
    refine ⟨fun i hi => h.hB i (by simpa [World.setCell] using hi), h.frame.set _ _ hown.1, ⟨_, (heap_setCell_other _ _ _ _ (by simp only; exact fun e => hown.2 e.symm)).trans h1, ?_⟩, h.rep.own⟩
    have hlen : (r.L.set k x').length = r.L.length := List.length_set
    exact h3
  refine ⟨b, c, cell_of_row w _ 1 _ _ _ h1, hcell 0 _ rfl, hcell 1 _ rfl, hcell 2 _ rfl, hfz 0, hfz 1, hfz 2, hown.2, fun s => hput 1 s _ (by omega) ?_, fun s => hput 2 s _ (by omega) ?_⟩
  · exact kRF_mkM _ _ _ { rdRF r.L k with kept := s }
  · exact kRF_mkM _ _ _ { rdRF r.L k with loose := s }
end Go.Proofs.Ytbndgnbhmifefaa
