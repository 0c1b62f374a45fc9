/- A disk of one file: the steps, in one shape each. -/
import Derived.Test.YtbndgnbhmifefaaDkUp
import Derived.Lib.SlBytesConst
namespace Go.Proofs.Ytbndgnbhmifefaa
open Go.RowKit Go.Proofs.YtbndgnbhmifefaaW.PrintWords Go.Proofs.YtbndgnbhmifefaaW.PrintMore
set_option linter.unusedVariables false
set_option linter.unusedSimpArgs false
/-- behind w0 there is one file, of these bytes -/
structure One (O : Nat → Prop) (w0 w : World) (g M : Nat) (room armed : Int) (down : Bool) (s : ByteArray) (bs : List Int) (kept : Nat) : Prop where
  hB : ∀ k, w.heap.size ≤ k → O k
  frame : DFrame O w0 w
  rep : ∃ e : DEnt, e.name = s ∧ e.file = ⟨bs, kept⟩ ∧ DRep O w g M room armed down [e]
section
variable {O : Nat → Prop} {w0 w w' : World} {g M : Nat} {room armed : Int} {down : Bool} {s : ByteArray} {bs : List Int} {kept : Nat}
theorem One.below (h : One O w0 w g M room armed down s bs kept) (hb : Below w.heap.size w w') : One O w0 w' g M room armed down s bs kept :=
  ⟨fun k hk => h.hB k (by have := hb.size; omega), h.frame.trans (DFrame.of hb), by obtain ⟨e, h1, h2, h3⟩ := h.rep; exact ⟨e, h1, h2, h3.below hb⟩⟩
theorem One.mk' (hB : ∀ k, w.heap.size ≤ k → O k) (hf : DFrame O w0 w) (hf' : DFrame O w w') (e : DEnt) (f : DFile) (hs : e.name = s) (hf2 : f = ⟨bs, kept⟩) (hr : DRep O w' g M room armed down [setF e f]) : One O w0 w' g M room armed down s bs kept :=
  ⟨fun k hk => hB k (by have := hf'.size; omega), hf.trans hf', ⟨setF e f, hs, hf2, hr⟩⟩
end
theorem may_here {e : DEnt} {s : ByteArray} (hs : e.name = s) (hn : namedB s = true) : mayR false true [e] [s] = 0 := by
  simp [mayR, mayN, badB, hasB, rdS, hs, hn]
theorem may_first {s : ByteArray} (hn : namedB s = true) : mayR false false [] [s] = 0 := by
  simp [mayR, mayN, badB, hasB, rdS, hn]
theorem may_there {e : DEnt} {s : ByteArray} (hs : e.name = s) (hn : namedB s = true) : mayR false false [e] [s] = 8 := by
  simp [mayR, mayN, badB, hasB, rdS, hs, hn]
/-- a name that serves -/
structure Good (s : ByteArray) : Prop where
  ok : NamedOk s
  yes : namedB s = true
  size : s.size ≤ 9223372036854775807
variable {O : Nat → Prop} {w0 : World} {g M : Nat} {room armed : Int} {s : ByteArray} {bs : List Int} {kept : Nat}
theorem create_first (hg : Good s) (w : World) (h : DRep O w g M room armed false []) (hB : ∀ k, w.heap.size ≤ k → O k) (hf : DFrame O w0 w) (ha : armed < 0) :
    Calls Try.prog 11 #[.pointer (some ⟨g, 0, none⟩), .string s] w fun x w' => x = .returned (.int .i64 0) ∧ One O w0 w' g M room armed false s [] 0 := by
  refine (create_ok O g M room armed false [] s (fun e he => by cases he) (by decide) w h hg.ok hg.size (may_first hg.yes) hB (by omega)).mono ?_
  rintro x w' ⟨rfl, _, h2, h3⟩
  obtain ⟨E', ⟨b, hb, rfl⟩, hr⟩ := h2 (by omega)
  have e1 : doN armed = 0 := by unfold doN; rw [if_neg (by omega)]
  have e2 : doA armed = armed := by unfold doA; rw [if_neg (by omega)]
  rw [e1]
  rw [e2] at hr
  exact ⟨rfl, ⟨fun k hk => hB k (by have := h3.size; omega), hf.trans h3, ⟨_, rfl, rfl, hr⟩⟩⟩
theorem create_again (hg : Good s) (w : World) (h : One O w0 w g M room armed false s bs kept) :
    Calls Try.prog 11 #[.pointer (some ⟨g, 0, none⟩), .string s] w fun x w' => x = .returned (.int .i64 8) ∧ One O w0 w' g M room armed false s bs kept := by
  obtain ⟨e, hn, hf, hr⟩ := h.rep
  refine (create_err O g M room armed false [e] s w hr hg.ok hg.size 8 (may_there hn hg.yes) (by decide)).mono ?_
  rintro x w' ⟨rfl, hb⟩
  exact ⟨rfl, h.below hb⟩
theorem app_one (hg : Good s) (B : Option Addr) (n cb : Nat) (l : List Int) (w : World) (h : One O w0 w g M room armed false s bs kept) (hn : n = l.length) (hC : Kd.C kByt w B l.length l) (hcb : l.length ≤ cb) (hr : (bs.length + l.length : Int) ≤ room) (hr' : room ≤ 1000) (ha : armed ≤ 9223372036854775807) :
    Calls Try.prog 12 #[.pointer (some ⟨g, 0, none⟩), .string s, .slice B n cb] w fun x w' => x = .returned (.int .i64 (doN armed)) ∧ One O w0 w' g M room (bif armed == 0 then -1 else doA armed) (armed == 0) s (bs ++ l) kept := by
  obtain ⟨e, hs, hf, hD⟩ := h.rep
  subst hs hn
  have hf1 : e.file.bytes = bs := by rw [hf]
  have hf2 : e.file.kept = kept := by rw [hf]
  have ht : totalE [e] = bs.length := by simp [totalE, hf1]
  refine (app_ok O g M room armed false [e] e (List.mem_singleton.2 rfl) B cb l w hD hg.ok hg.size (may_here rfl hg.yes) (by omega) (by omega) (by omega) (by rw [hf1]; omega) hC hcb h.hB ha (by rw [ht]; omega)).mono ?_
  rintro x w' ⟨rfl, h1, h2, h3⟩
  refine ⟨rfl, ?_⟩
  rw [updE_one] at h1 h2
  by_cases h0 : armed = 0
  · subst h0
    exact One.mk' h.hB h.frame h3 e _ rfl (by rw [hf1, hf2]) (h1 rfl)
  · obtain ⟨E', rfl, hr2⟩ := h2 h0
    rw [beq_eq_false_iff_ne.2 h0]
    exact One.mk' h.hB h.frame h3 e _ rfl (by rw [hf1, hf2]) hr2
theorem sync_one (hg : Good s) (w : World) (h : One O w0 w g M room armed false s bs kept) (ha : armed ≤ 9223372036854775807) :
    Calls Try.prog 16 #[.pointer (some ⟨g, 0, none⟩), .string s] w fun x w' => x = .returned (.int .i64 (doN armed)) ∧ One O w0 w' g M room (bif armed == 0 then -1 else doA armed) (armed == 0) s bs (bif armed == 0 then kept else bs.length) := by
  obtain ⟨e, hs, hf, hD⟩ := h.rep
  subst hs
  have hf1 : e.file.bytes = bs := by rw [hf]
  refine (sync_ok O g M room armed false [e] e (List.mem_singleton.2 rfl) w hD hg.ok hg.size (may_here rfl hg.yes) h.hB ha).mono ?_
  rintro x w' ⟨rfl, h1, h2, h3⟩
  refine ⟨rfl, ?_⟩
  rw [updE_one] at h2
  by_cases h0 : armed = 0
  · subst h0
    exact ⟨fun k hk => h.hB k (by have := h3.size; omega), h.frame.trans h3, e, rfl, hf, h1 rfl⟩
  · obtain ⟨E', rfl, hr2⟩ := h2 h0
    rw [beq_eq_false_iff_ne.2 h0]
    exact One.mk' h.hB h.frame h3 e _ rfl (by rw [hf1]; rfl) hr2
theorem arm_one (n : Int) (down : Bool) (w : World) (h : One O w0 w g M room armed down s bs kept) :
    Calls Try.prog 17 #[.pointer (some ⟨g, 0, none⟩), .int .i64 n] w fun x w' => x = .returned (.tuple #[]) ∧ One O w0 w' g M room (max n (-1)) down s bs kept := by
  obtain ⟨e, hs, hf, hD⟩ := h.rep
  refine (arm_calls O g M room armed down [e] n w hD).mono ?_
  rintro x w' ⟨rfl, h1, h3⟩
  exact ⟨rfl, fun k hk => h.hB k (by have := h3.size; omega), h.frame.trans h3, e, hs, hf, h1⟩
theorem down_one (down : Bool) (w : World) (h : One O w0 w g M room armed down s bs kept) :
    Calls Try.prog 18 #[.pointer (some ⟨g, 0, none⟩)] w fun x w' => x = .returned (.bool down) ∧ w' = w := by
  obtain ⟨e, hs, hf, hD⟩ := h.rep
  exact down_calls O g M room armed down [e] w hD
theorem free_one (down : Bool) (w : World) (h : One O w0 w g M room armed down s bs kept) (hr : 0 ≤ room) (hr' : room ≤ 1000) (hl : bs.length ≤ 1000000) :
    Calls Try.prog 14 #[.pointer (some ⟨g, 0, none⟩)] w fun x w' => x = .returned (.int .i64 (room - (bs.length : Int))) ∧ One O w0 w' g M room armed down s bs kept := by
  obtain ⟨e, hs, hf, hD⟩ := h.rep
  have hf1 : e.file.bytes = bs := by rw [hf]
  have ht : totalE [e] = bs.length := by simp [totalE, hf1]
  refine (free_calls O g M room armed down [e] w hD hr (by omega) (by omega)).mono ?_
  rintro x w' ⟨rfl, hb⟩
  exact ⟨by rw [ht], h.below hb⟩
theorem read_one (hg : Good s) (w : World) (h : One O w0 w g M room armed false s bs kept) (hl : bs.length ≤ 1000000) :
    Calls Try.prog 13 #[.pointer (some ⟨g, 0, none⟩), .string s] w fun x w' => One O w0 w' g M room armed false s bs kept ∧ ReadTell w bs x w' := by
  obtain ⟨e, hs, hf, hD⟩ := h.rep
  subst hs
  have hf1 : e.file.bytes = bs := by rw [hf]
  refine (read_ok O g M room armed false [e] e (List.mem_singleton.2 rfl) w hD hg.ok hg.size (may_here rfl hg.yes) (by rw [hf1]; omega)).mono ?_
  intro x w' hx
  rw [hf1] at hx
  obtain ⟨v, b, h1, h2, h3, h4⟩ := hx
  exact ⟨h.below h4, v, b, h1, h2, h3, h4⟩
theorem up_here (n : Int) (w : World) (h : One O w0 w g M room armed true s bs kept) (hn1 : -9223372036854775808 ≤ n) (hn2 : n ≤ 9223372036854775807) (hs : s.size ≤ 9223372036854775807) (hk : kept ≤ bs.length) (hl : bs.length ≤ 1000000) :
    Calls Try.prog 19 #[.pointer (some ⟨g, 0, none⟩), .slice (some ⟨w.heap.size, 0, none⟩) 1 1] (w.alloc (.cells #[.int .i64 n] 3)) fun x w' => x = .returned (.tuple #[]) ∧ One O w0 w' g M room (-1) false s (bs.take (upN n kept bs.length)) (upN n kept bs.length) := by
  obtain ⟨e, hs', hf, hD⟩ := h.rep
  subst hs'
  have hf1 : e.file.bytes = bs := by rw [hf]
  have hf2 : e.file.kept = kept := by rw [hf]
  have hsz : (w.alloc (.cells #[.int .i64 n] 3)).heap.size = w.heap.size + 1 := by show (w.heap.push _).size = _; simp
  have hD' := (hD.mono (O' := fun k => O k ∧ k ≠ w.heap.size) (fun k hk hlt => ⟨hk, by omega⟩)).below (below_alloc (Below.refl _ _) (.cells #[.int .i64 n] 3))
  refine (up_one _ g M room armed e w.heap.size 1 n _ hD' (cell_of_row _ _ 0 _ _ _ (heap_alloc_new _ _)) (by simp) hn1 hn2 hs (by rw [hf1, hf2]; exact hk) (by rw [hf1]; exact hl) (fun k hk => ⟨h.hB k (by omega), by omega⟩)).mono ?_
  rintro x w' ⟨rfl, h1, h3⟩
  rw [hf1, hf2] at h1
  have h3' : DFrame O w w' := (DFrame.of (below_alloc (Below.refl _ _) _)).trans (h3.mono (fun k hk => hk.1))
  exact ⟨rfl, One.mk' h.hB h.frame h3' e _ rfl rfl (h1.mono (fun k hk _ => hk.1))⟩
theorem str_run (w : World) (A : Option Addr) (n c : Nat) (l : List Int) (hn : n = l.length) (h : Kd.C kByt w A l.length l) :
    (convert 22 9 (.slice A n c)).run Try.prog w = .ok (.string (strOfNums l)) w := by
  subst hn
  rw [run_convert_bytes_string w _ _ 5 _ _ _ Try.underlying22 Try.underlying5 Try.underlying9]
  obtain ⟨_, _, h3⟩ := C_cells h
  cases A with
  | none =>
    cases l with
    | nil => rfl
    | cons a l => obtain ⟨ad, h4, _⟩ := h3 (by simp); cases h4
  | some ad =>
    have hl : (loadCells ad l.length).run Try.prog w = .ok (l.map (Value.int .u8)).toArray w := by
      have := run_loadCells_list (P := Try.prog) w ad (l.map (Value.int .u8)) (fun j v hj => by
        have hjl : j < l.length := by simpa using (List.getElem?_eq_some_iff.1 hj).1
        obtain ⟨ad', h4, h5⟩ := h3 (by omega)
        cases h4
        rw [h5 j hjl]
        simp [List.getElem?_eq_getElem hjl] at hj
        subst hj
        simp [List.getD, List.getElem?_eq_getElem hjl])
      simpa using this
    rw [run_bytesToString w _ _ _ l hl, foldl_push_bytes]
    simp [strOfNums, ByteArray.empty, ByteArray.emptyWithCapacity]
    rfl
theorem C_row {W : World} {b : Nat} {fz : Nat × Nat} (l : List Int) (h : W.heap[b]? = some (.cells (l.map (Value.int .u8)).toArray 5 fz)) (hl : l.length ≤ 9223372036854775807) : Kd.C kByt W (some ⟨b, 0, none⟩) l.length l :=
  ⟨rfl, hl, fun _ => ⟨_, rfl, fun j p hj => ⟨[.int .u8 p], rfl, rfl, fun i u hu => by
    rcases i with _ | i
    · simp only [List.getElem?_cons_zero, Option.some.injEq] at hu
      subst hu
      rw [show (⟨b, 0, none⟩ : Addr).add (j * kByt.sz + 0) = ⟨b, j, none⟩ by rw [show kByt.sz = 1 from rfl, Nat.mul_one, Nat.add_zero]; exact add_plain _ _, cell_of_row W b j _ _ _ h]
      simp [hj]
    · simp at hu⟩⟩⟩
theorem below_marked (w : World) (C : Array Value) (fz : Nat × Nat) : Below w.heap.size w (w.alloc (.cells C 5 fz)) := below_alloc (Below.refl _ _) _
theorem C_lit1 (w : World) (a : Int) : Kd.C kByt (w.alloc (.cells #[.int .u8 a] 5 (1, 2))) (some ⟨w.heap.size, 0, none⟩) [a].length [a] :=
  C_row (l := [a]) (heap_alloc_new _ _) (by simp)
theorem C_lit2 (w : World) (a b : Int) : Kd.C kByt (w.alloc (.cells #[.int .u8 a, .int .u8 b] 5 (2, 3))) (some ⟨w.heap.size, 0, none⟩) [a, b].length [a, b] :=
  C_row (l := [a, b]) (heap_alloc_new _ _) (by simp)
theorem conv_const (w : World) (C : Array Value) (n c : Nat) :
    (convert 22 22 (.slice (some ⟨w.heap.size, 0, none⟩) n c)).run Try.prog (w.alloc (.cells C 5)) = .ok (.slice (some ⟨w.heap.size, 0, none⟩) n c) (w.alloc (.cells C 5 (C.size, C.size + 1))) := Lib.run_convert_bytes_const w _ _ C n c Try.underlying22 Try.underlying5
theorem good_a : Good ⟨#[97]⟩ := ⟨named_ascii _ (by decide) (fun i h => by
    have h' : i < 1 := h
    obtain rfl : i = 0 := by omega
    exact (by decide : (97 : UInt8).toNat < 128)), by decide, by decide⟩
end Go.Proofs.Ytbndgnbhmifefaa
