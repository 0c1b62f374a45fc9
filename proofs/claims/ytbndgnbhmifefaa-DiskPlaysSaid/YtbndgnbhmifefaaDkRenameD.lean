/- Rename, the deed. Conditions: the disk stands where the pointer points; named serves at both names. -/
import Derived.Test.YtbndgnbhmifefaaDkRename
namespace Go.Proofs.Ytbndgnbhmifefaa
open Go.RowKit Go.Proofs.YtbndgnbhmifefaaW.PrintWords Go.Proofs.YtbndgnbhmifefaaW.PrintMore
set_option linter.unusedVariables false
set_option linter.unusedSimpArgs false
theorem c_str2 {W : World} {b : Nat} {s t : ByteArray} (h : W.heap[b]? = some (.cells #[.string s, .string t] 9 (0, 0))) : Kd.C Kd.string W (some ⟨b, 0, none⟩) 2 [s, t] :=
  ⟨rfl, by decide, fun _ => ⟨_, rfl, fun j p hj => by
    match j, hj with
    | 0, hj =>
      simp only [List.getElem?_cons_zero, Option.some.injEq] at hj
      subst hj
      refine ⟨[.string s], rfl, rfl, fun i u hu => ?_⟩
      rcases i with _ | i
      · simp only [List.getElem?_cons_zero, Option.some.injEq] at hu
        subst hu
        rw [show (⟨b, 0, none⟩ : Addr).add (0 * Kd.string.sz + 0) = ⟨b, 0, none⟩ from add_plain _ _, cell_of_row W b 0 _ _ _ h]
        rfl
      · simp at hu
    | 1, hj =>
      simp only [List.getElem?_cons_succ, List.getElem?_cons_zero, Option.some.injEq] at hj
      subst hj
      refine ⟨[.string t], rfl, rfl, fun i u hu => ?_⟩
      rcases i with _ | i
      · simp only [List.getElem?_cons_zero, Option.some.injEq] at hu
        subst hu
        rw [show (⟨b, 0, none⟩ : Addr).add (1 * Kd.string.sz + 0) = ⟨b, 1, none⟩ from add_plain _ _, cell_of_row W b 1 _ _ _ h]
        rfl
      · simp at hu
    | j + 2, hj => simp at hj⟩⟩
theorem may_two (O : Nat → Prop) (g M : Nat) (room armed : Int) (down there : Bool) (E : List DEnt) (b c : Nat) (s t : ByteArray) (w : World) (h : DRep O w g M room armed down E) (hC : w.heap[b]? = some (.cells #[.string s, .string t] 9 (0, 0))) (hn : NamedOk s) (hs : s.size ≤ 9223372036854775807) (hnt : NamedOk t) (hst : t.size ≤ 9223372036854775807) :
    Calls Try.prog 27 #[.pointer (some ⟨g, 0, none⟩), .bool there, .slice (some ⟨b, 0, none⟩) 2 c] w fun e w' => e = .returned (.int .i64 (mayR down there E [s, t])) ∧ Below w.heap.size w w' :=
  may_calls O g M room armed down there E _ c [s, t] w h (c_str2 hC) (by simp) (fun x hx => by simp at hx; rcases hx with rfl | rfl <;> assumption) (fun x hx => by simp at hx; rcases hx with rfl | rfl <;> assumption)
theorem three_boxes (w : World) (a b c : Array Value) (s t u : TypeId) :
    (((w.alloc (.cells a s)).alloc (.cells b t)).alloc (.cells c u)).heap[w.heap.size]? = some (.cells a s (0, 0)) ∧ (((w.alloc (.cells a s)).alloc (.cells b t)).alloc (.cells c u)).heap[w.heap.size + 1]? = some (.cells b t (0, 0)) ∧ (((w.alloc (.cells a s)).alloc (.cells b t)).alloc (.cells c u)).heap[w.heap.size + 2]? = some (.cells c u (0, 0)) := by
  have hsz : ((w.alloc (.cells a s)).alloc (.cells b t)).heap.size = w.heap.size + 2 := by simp
  have hb := below_alloc (Below.refl _ ((w.alloc (.cells a s)).alloc (.cells b t))) (.cells c u)
  refine ⟨(hb.block _ (by omega)).trans (heap_alloc2_old _ _ _), (hb.block _ (by omega)).trans (heap_alloc2_new _ _ _), ?_⟩
  rw [← hsz]
  exact heap_alloc_new _ _
set_option maxRecDepth 100000 in
set_option maxHeartbeats 8000000 in
theorem rename_err (O : Nat → Prop) (g M : Nat) (room armed : Int) (down : Bool) (E : List DEnt) (s t : ByteArray) (w : World) (h : DRep O w g M room armed down E) (hn : NamedOk s) (hs : s.size ≤ 9223372036854775807) (hnt : NamedOk t) (hst : t.size ≤ 9223372036854775807) (m : Int) (hm : mayR down true E [s, t] = m) (hm0 : m ≠ 0) :
    Calls Try.prog 20 #[.pointer (some ⟨g, 0, none⟩), .string s, .string t] w fun x w' => x = .returned (.int .i64 m) ∧ Below w.heap.size w w' := by
  have HD := Aside0.mk h
  have HM := Aside0.mk (fun b c W hD hC => may_two O g M room armed down true E b c s t W hD hC hn hs hnt hst)
  rw [hm] at HM
  have HE := Aside0.mk (fun W caps => do_err g m 33 caps W hm0)
  clear h hn hm hs hm0 hnt hst
  go_enter Try.func20, Try.ntmps20
  go_wp2
  obtain ⟨r0, r1, r2⟩ := three_boxes w #[.pointer (some ⟨g, 0, none⟩)] #[.string s] #[.string t] 23 9 9
  have hbel : Below w.heap.size w (((w.alloc (.cells #[.pointer (some ⟨g, 0, none⟩)] 23)).alloc (.cells #[.string s] 9)).alloc (.cells #[.string t] 9)) := below_alloc (below_alloc (below_alloc (Below.refl _ _) _) _) _
  have hsz : w.heap.size + 3 ≤ (((w.alloc (.cells #[.pointer (some ⟨g, 0, none⟩)] 23)).alloc (.cells #[.string s] 9)).alloc (.cells #[.string t] 9)).heap.size := by simp
  generalize ((w.alloc (.cells #[.pointer (some ⟨g, 0, none⟩)] 23)).alloc (.cells #[.string s] 9)).alloc (.cells #[.string t] 9) = w0 at *
  have c0 : w0.cell? ⟨w.heap.size, 0, none⟩ = some (.pointer (some ⟨g, 0, none⟩)) := cell_of_row w0 _ 0 _ _ _ r0
  have c1 : w0.cell? ⟨w.heap.size + 1, 0, none⟩ = some (.string s) := cell_of_row w0 _ 0 _ _ _ r1
  have c2 : w0.cell? ⟨w.heap.size + 2, 0, none⟩ = some (.string t) := cell_of_row w0 _ 0 _ _ _ r2
  have HBel := Aside0.mk hbel
  have HSz := Aside0.mk hsz
  clear r0 r1 r2 hbel hsz
  go_region_held3 (fun W => W.cell? ⟨w.heap.size, 0, none⟩ = some (.pointer (some ⟨g, 0, none⟩)) ∧ W.cell? ⟨w.heap.size + 1, 0, none⟩ = some (.string s) ∧ W.cell? ⟨w.heap.size + 2, 0, none⟩ = some (.string t))
    (first | assumption | exact HS2.out | go_keep)
    (first
    | (go_at_call 27; (with_reducible refine (HM.out _ _ _ ((HD.out.below HBel.out).below ((below_alloc (Below.refl _ _) _).drew)) (heap_alloc_new _ _)).mono ?_); rintro x w2 ⟨rfl, hb2⟩; have HB2 := Aside0.mk (((below_alloc (Below.refl w0.heap.size w0) _).drew).trans (hb2.mono (by simp))); have HS2 := Aside0.mk (And.intro (pw_cell_below HB2.out c0) (And.intro (pw_cell_below HB2.out c1) (pw_cell_below HB2.out c2))); clear hb2)
    | (go_at_call 26; (with_reducible refine (HE.out _ _).mono ?_); rintro x w3 ⟨rfl, rfl⟩))
  go_wp2
  all_goals
    go_ret
    exact ⟨rfl, HBel.out.trans (HB2.out.mono HBel.out.size)⟩
set_option maxRecDepth 100000 in
set_option maxHeartbeats 8000000 in
theorem rename_ok (O : Nat → Prop) (g M : Nat) (room armed : Int) (down : Bool) (E : List DEnt) (e : DEnt) (he : e ∈ E) (t : ByteArray) (w : World) (h : DRep O w g M room armed down E) (hn : NamedOk e.name) (hs : e.name.size ≤ 9223372036854775807) (hnt : NamedOk t) (hst : t.size ≤ 9223372036854775807) (hm : mayR down true E [e.name, t] = 0) (hE : E.length ≤ 100000) (hB : ∀ k, w.heap.size ≤ k → O k) (ha : armed ≤ 9223372036854775807) :
    Calls Try.prog 20 #[.pointer (some ⟨g, 0, none⟩), .string e.name, .string t] w (DoTell O w g M room armed down E (fun E' => E' = renE E e t)) := by
  have HD := Aside0.mk h
  have HM := Aside0.mk (fun b c W hD hC => may_two O g M room armed down true E b c e.name t W hD hC hn hs hnt hst)
  rw [hm] at HM
  have HB := Aside0.mk hB
  go_enter Try.func20, Try.ntmps20
  go_wp2
  obtain ⟨r0, r1, r2⟩ := three_boxes w #[.pointer (some ⟨g, 0, none⟩)] #[.string e.name] #[.string t] 23 9 9
  have hbel : Below w.heap.size w (((w.alloc (.cells #[.pointer (some ⟨g, 0, none⟩)] 23)).alloc (.cells #[.string e.name] 9)).alloc (.cells #[.string t] 9)) := below_alloc (below_alloc (below_alloc (Below.refl _ _) _) _) _
  have hsz : w.heap.size + 3 ≤ (((w.alloc (.cells #[.pointer (some ⟨g, 0, none⟩)] 23)).alloc (.cells #[.string e.name] 9)).alloc (.cells #[.string t] 9)).heap.size := by simp
  generalize ((w.alloc (.cells #[.pointer (some ⟨g, 0, none⟩)] 23)).alloc (.cells #[.string e.name] 9)).alloc (.cells #[.string t] 9) = w0 at *
  have c0 : w0.cell? ⟨w.heap.size, 0, none⟩ = some (.pointer (some ⟨g, 0, none⟩)) := cell_of_row w0 _ 0 _ _ _ r0
  have c1 : w0.cell? ⟨w.heap.size + 1, 0, none⟩ = some (.string e.name) := cell_of_row w0 _ 0 _ _ _ r1
  have c2 : w0.cell? ⟨w.heap.size + 2, 0, none⟩ = some (.string t) := cell_of_row w0 _ 0 _ _ _ r2
  have HBel := Aside0.mk hbel
  have HSz := Aside0.mk hsz
  clear r0 r1 r2 hbel hsz
  have HK := Aside0.mk (fun (w2 : World) (hb2 : Below w0.heap.size w0 w2) => do_deed (fun k => (O k ∧ k < w.heap.size) ∨ w2.heap.size ≤ k) g M room armed down E (fun E' => E' = renE E e t) 33 #[.pointer (some ⟨w.heap.size, 0, none⟩), .pointer (some ⟨w.heap.size + 1, 0, none⟩), .pointer (some ⟨w.heap.size + 2, 0, none⟩)] w2 (fun W => by kernel_rfl) ((((HD.out.mono (O' := fun k => O k ∧ k < w.heap.size) (fun k hk hlt => ⟨hk, hlt⟩)).below HBel.out).below hb2).mono (fun k hk _ => .inl hk)) ha (fun W a hD hF => by
    have z1 := HSz.out
    have z2 := hb2.size
    have hd : W.cell? ⟨w.heap.size, 0, none⟩ = some (.pointer (some ⟨g, 0, none⟩)) := box_kept hF (pw_cell_below hb2 c0) (by omega) (by omega)
    have hn' : W.cell? ⟨w.heap.size + 1, 0, none⟩ = some (.string e.name) := box_kept hF (pw_cell_below hb2 c1) (by omega) (by omega)
    have ht' : W.cell? ⟨w.heap.size + 2, 0, none⟩ = some (.string t) := box_kept hF (pw_cell_below hb2 c2) (by omega) (by omega)
    exact (renameF _ g M _ _ _ room a down E e he t W hD hd hn' ht' (fun hh => by rcases hh with hh | hh <;> omega) (fun hh => by rcases hh with hh | hh <;> omega) hs hst hE).mono fun x w' ⟨hx, h1, h2⟩ => ⟨hx, _, rfl, h1, h2⟩))
  clear h hn hm hB hnt
  go_region_held3 (fun W => W.cell? ⟨w.heap.size, 0, none⟩ = some (.pointer (some ⟨g, 0, none⟩)) ∧ W.cell? ⟨w.heap.size + 1, 0, none⟩ = some (.string e.name) ∧ W.cell? ⟨w.heap.size + 2, 0, none⟩ = some (.string t))
    (first | assumption | exact HS3.out | exact HS2.out | go_keep)
    (first
    | (go_at_call 27; (with_reducible refine (HM.out _ _ _ ((HD.out.below HBel.out).below ((below_alloc (Below.refl _ _) _).drew)) (heap_alloc_new _ _)).mono ?_); rintro x w2 ⟨rfl, hb2⟩; have HB2 := Aside0.mk (((below_alloc (Below.refl w0.heap.size w0) _).drew).trans (hb2.mono (by simp))); have HS2 := Aside0.mk (And.intro (pw_cell_below HB2.out c0) (And.intro (pw_cell_below HB2.out c1) (pw_cell_below HB2.out c2))); clear hb2)
    | (go_at_call 26; (with_reducible refine (HK.out w2 HB2.out).mono ?_); rintro x w3 ⟨rfl, h1, h2, h3⟩; have HS3 := Aside0.mk (And.intro (box_kept h3 HS2.out.1 (by have := HSz.out; have := HB2.out.size; omega) (by have := HSz.out; have := HB2.out.size; omega)) (And.intro (box_kept h3 HS2.out.2.1 (by have := HSz.out; have := HB2.out.size; omega) (by have := HSz.out; have := HB2.out.size; omega)) (box_kept h3 HS2.out.2.2 (by have := HSz.out; have := HB2.out.size; omega) (by have := HSz.out; have := HB2.out.size; omega)))); have H1 := Aside0.mk h1; have H2 := Aside0.mk h2; have H3 := Aside0.mk h3; clear h1 h2 h3))
  go_wp2
  all_goals
    go_ret
    exact deed_done H1.out H2.out H3.out HB.out (HBel.out.trans (HB2.out.mono HBel.out.size))
end Go.Proofs.Ytbndgnbhmifefaa
