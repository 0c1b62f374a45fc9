/- Create, Sync, Remove. Conditions: the disk stands where the pointer points; named serves at the name. -/
import Derived.Test.YtbndgnbhmifefaaDkAppend
namespace Go.Proofs.Ytbndgnbhmifefaa
open Go.RowKit Go.Proofs.YtbndgnbhmifefaaW.PrintWords
set_option linter.unusedVariables false
set_option linter.unusedSimpArgs false
theorem box_kept {O1 : Nat → Prop} {W W' : World} {n b : Nat} {v : Value} (hF : DFrame (fun k => (O1 k ∧ k < n) ∨ W.heap.size ≤ k) W W') (hc : W.cell? ⟨b, 0, none⟩ = some v) (hb : n ≤ b) (hlt : b < W.heap.size) : W'.cell? ⟨b, 0, none⟩ = some v := by
  have := hF.block b hlt (fun h => by rcases h with h | h <;> omega)
  unfold World.cell? at *
  simp only [this]
  exact hc
theorem deed_done {O : Nat → Prop} {w w2 w3 : World} {g M : Nat} {room armed : Int} {down : Bool} {E : List DEnt} {Post : List DEnt → Prop} (h1 : armed = 0 → DRep (fun k => (O k ∧ k < w.heap.size) ∨ w2.heap.size ≤ k) w3 g M room (-1) true E) (h2 : armed ≠ 0 → ∃ E', Post E' ∧ DRep (fun k => (O k ∧ k < w.heap.size) ∨ w2.heap.size ≤ k) w3 g M room (doA armed) down E') (h3 : DFrame (fun k => (O k ∧ k < w.heap.size) ∨ w2.heap.size ≤ k) w2 w3) (hB : ∀ k, w.heap.size ≤ k → O k) (hb : Below w.heap.size w w2) :
    DoTell O w g M room armed down E Post (.returned (.int .i64 (doN armed))) w3 := by
  have hm : ∀ k, ((O k ∧ k < w.heap.size) ∨ w2.heap.size ≤ k) → O k := fun k hk => by
    rcases hk with hk | hk
    · exact hk.1
    · exact hB k (by have := hb.size; omega)
  exact ⟨rfl, fun ha => (h1 ha).mono (fun k hk _ => hm k hk), fun ha => by obtain ⟨E', hp, hd⟩ := h2 ha; exact ⟨E', hp, hd.mono (fun k hk _ => hm k hk)⟩, (DFrame.of hb).trans (h3.mono hm)⟩
set_option maxRecDepth 100000 in
set_option maxHeartbeats 8000000 in
theorem create_err (O : Nat → Prop) (g M : Nat) (room armed : Int) (down : Bool) (E : List DEnt) (s : ByteArray) (w : World) (h : DRep O w g M room armed down E) (hn : NamedOk s) (hs : s.size ≤ 9223372036854775807) (m : Int) (hm : mayR down false E [s] = m) (hm0 : m ≠ 0) :
    Calls Try.prog 11 #[.pointer (some ⟨g, 0, none⟩), .string s] w fun x w' => x = .returned (.int .i64 m) ∧ Below w.heap.size w w' := by
  have HD := Aside0.mk h
  have HM := Aside0.mk (fun b c W hD hC => may_one O g M room armed down false E b c s W hD hC hn hs)
  rw [hm] at HM
  have HE := Aside0.mk (fun W caps => do_err g m 28 caps W hm0)
  clear h hn hm hs hm0
  go_enter Try.func11, Try.ntmps11
  go_wp2
  obtain ⟨r0, r1⟩ := two_boxes w #[.pointer (some ⟨g, 0, none⟩)] #[.string s] 23 9
  have hbel : Below w.heap.size w ((w.alloc (.cells #[.pointer (some ⟨g, 0, none⟩)] 23)).alloc (.cells #[.string s] 9)) := below_alloc (below_alloc (Below.refl _ _) _) _
  have hsz : w.heap.size + 2 ≤ ((w.alloc (.cells #[.pointer (some ⟨g, 0, none⟩)] 23)).alloc (.cells #[.string s] 9)).heap.size := by simp
  generalize (w.alloc (.cells #[.pointer (some ⟨g, 0, none⟩)] 23)).alloc (.cells #[.string s] 9) = w0 at *
  have c0 : w0.cell? ⟨w.heap.size, 0, none⟩ = some (.pointer (some ⟨g, 0, none⟩)) := cell_of_row w0 _ 0 _ _ _ r0
  have c1 : w0.cell? ⟨w.heap.size + 1, 0, none⟩ = some (.string s) := cell_of_row w0 _ 0 _ _ _ r1
  have HBel := Aside0.mk hbel
  have HSz := Aside0.mk hsz
  clear r0 r1 hbel hsz
  go_region_held3 (fun W => W.cell? ⟨w.heap.size, 0, none⟩ = some (.pointer (some ⟨g, 0, none⟩)) ∧ W.cell? ⟨w.heap.size + 1, 0, none⟩ = some (.string s))
    (first | assumption | exact HS2.out | go_keep)
    (first
    | (go_at_call 27; (with_reducible refine (HM.out _ _ _ ((HD.out.below HBel.out).below ((below_alloc (Below.refl _ _) _).drew)) (heap_alloc_new _ _)).mono ?_); rintro x w2 ⟨rfl, hb2⟩; have HB2 := Aside0.mk (((below_alloc (Below.refl w0.heap.size w0) _).drew).trans (hb2.mono (by simp))); have HS2 := Aside0.mk (And.intro (pw_cell_below HB2.out c0) (pw_cell_below HB2.out c1)); clear hb2)
    | (go_at_call 26; (with_reducible refine (HE.out _ _).mono ?_); rintro x w3 ⟨rfl, rfl⟩))
  go_wp2
  all_goals
    go_ret
    exact ⟨rfl, HBel.out.trans (HB2.out.mono HBel.out.size)⟩
set_option maxRecDepth 100000 in
set_option maxHeartbeats 8000000 in
theorem create_ok (O : Nat → Prop) (g M : Nat) (room armed : Int) (down : Bool) (E : List DEnt) (s : ByteArray) (hnew : ∀ e ∈ E, e.name ≠ s) (hE : E.length ≤ 100000) (w : World) (h : DRep O w g M room armed down E) (hn : NamedOk s) (hs : s.size ≤ 9223372036854775807) (hm : mayR down false E [s] = 0) (hB : ∀ k, w.heap.size ≤ k → O k) (ha : armed ≤ 9223372036854775807) :
    Calls Try.prog 11 #[.pointer (some ⟨g, 0, none⟩), .string s] w (DoTell O w g M room armed down E (fun E' => ∃ b, w.heap.size ≤ b ∧ E' = ⟨s, b, ⟨[], 0⟩⟩ :: E)) := by
  have HD := Aside0.mk h
  have HM := Aside0.mk (fun b c W hD hC => may_one O g M room armed down false E b c s W hD hC hn hs)
  rw [hm] at HM
  have HB := Aside0.mk hB
  go_enter Try.func11, Try.ntmps11
  go_wp2
  obtain ⟨r0, r1⟩ := two_boxes w #[.pointer (some ⟨g, 0, none⟩)] #[.string s] 23 9
  have hbel : Below w.heap.size w ((w.alloc (.cells #[.pointer (some ⟨g, 0, none⟩)] 23)).alloc (.cells #[.string s] 9)) := below_alloc (below_alloc (Below.refl _ _) _) _
  have hsz : w.heap.size + 2 ≤ ((w.alloc (.cells #[.pointer (some ⟨g, 0, none⟩)] 23)).alloc (.cells #[.string s] 9)).heap.size := by simp
  generalize (w.alloc (.cells #[.pointer (some ⟨g, 0, none⟩)] 23)).alloc (.cells #[.string s] 9) = w0 at *
  have c0 : w0.cell? ⟨w.heap.size, 0, none⟩ = some (.pointer (some ⟨g, 0, none⟩)) := cell_of_row w0 _ 0 _ _ _ r0
  have c1 : w0.cell? ⟨w.heap.size + 1, 0, none⟩ = some (.string s) := cell_of_row w0 _ 0 _ _ _ r1
  have HBel := Aside0.mk hbel
  have HSz := Aside0.mk hsz
  clear r0 r1 hbel hsz
  have HK := Aside0.mk (fun (w2 : World) (hb2 : Below w0.heap.size w0 w2) => do_deed (fun k => (O k ∧ k < w.heap.size) ∨ w2.heap.size ≤ k) g M room armed down E (fun E' => ∃ b, w.heap.size ≤ b ∧ E' = ⟨s, b, ⟨[], 0⟩⟩ :: E) 28 #[.pointer (some ⟨w.heap.size, 0, none⟩), .pointer (some ⟨w.heap.size + 1, 0, none⟩)] w2 (fun W => by kernel_rfl) ((((HD.out.mono (O' := fun k => O k ∧ k < w.heap.size) (fun k hk hlt => ⟨hk, hlt⟩)).below HBel.out).below hb2).mono (fun k hk _ => .inl hk)) ha (fun W a hD hF => by
    have hd : W.cell? ⟨w.heap.size, 0, none⟩ = some (.pointer (some ⟨g, 0, none⟩)) := box_kept hF (pw_cell_below hb2 c0) (by have := HSz.out; have := hb2.size; omega) (by have := HSz.out; have := hb2.size; omega)
    have hn' : W.cell? ⟨w.heap.size + 1, 0, none⟩ = some (.string s) := box_kept hF (pw_cell_below hb2 c1) (by have := HSz.out; have := hb2.size; omega) (by have := HSz.out; have := hb2.size; omega)
    exact (createF _ g M _ _ room a down E s W hD hd hn' hs hnew hE (fun k hk => .inr (by have := hF.size; omega))).mono fun x w' ⟨hx, b, hb, h1, h2⟩ => ⟨hx, _, ⟨b, by have := hF.size; have := HBel.out.size; have := hb2.size; omega, rfl⟩, h1, h2⟩))
  clear h hn hm hB
  go_region_held3 (fun W => W.cell? ⟨w.heap.size, 0, none⟩ = some (.pointer (some ⟨g, 0, none⟩)) ∧ W.cell? ⟨w.heap.size + 1, 0, none⟩ = some (.string s))
    (first | assumption | exact HS3.out | exact HS2.out | go_keep)
    (first
    | (go_at_call 27; (with_reducible refine (HM.out _ _ _ ((HD.out.below HBel.out).below ((below_alloc (Below.refl _ _) _).drew)) (heap_alloc_new _ _)).mono ?_); rintro x w2 ⟨rfl, hb2⟩; have HB2 := Aside0.mk (((below_alloc (Below.refl w0.heap.size w0) _).drew).trans (hb2.mono (by simp))); have HS2 := Aside0.mk (And.intro (pw_cell_below HB2.out c0) (pw_cell_below HB2.out c1)); clear hb2)
    | (go_at_call 26; (with_reducible refine (HK.out w2 HB2.out).mono ?_); rintro x w3 ⟨rfl, h1, h2, h3⟩; have HS3 := Aside0.mk (And.intro (box_kept h3 HS2.out.1 (by have := HSz.out; have := HB2.out.size; omega) (by have := HSz.out; have := HB2.out.size; omega)) (box_kept h3 HS2.out.2 (by have := HSz.out; have := HB2.out.size; omega) (by have := HSz.out; have := HB2.out.size; omega))); have H1 := Aside0.mk h1; have H2 := Aside0.mk h2; have H3 := Aside0.mk h3; clear h1 h2 h3))
  go_wp2
  all_goals
    go_ret
    exact deed_done H1.out H2.out H3.out HB.out (HBel.out.trans (HB2.out.mono HBel.out.size))
set_option maxRecDepth 100000 in
set_option maxHeartbeats 8000000 in
theorem sync_err (O : Nat → Prop) (g M : Nat) (room armed : Int) (down : Bool) (E : List DEnt) (s : ByteArray) (w : World) (h : DRep O w g M room armed down E) (hn : NamedOk s) (hs : s.size ≤ 9223372036854775807) (m : Int) (hm : mayR down true E [s] = m) (hm0 : m ≠ 0) :
    Calls Try.prog 16 #[.pointer (some ⟨g, 0, none⟩), .string s] w fun x w' => x = .returned (.int .i64 m) ∧ Below w.heap.size w w' := by
  have HD := Aside0.mk h
  have HM := Aside0.mk (fun b c W hD hC => may_one O g M room armed down true E b c s W hD hC hn hs)
  rw [hm] at HM
  have HE := Aside0.mk (fun W caps => do_err g m 32 caps W hm0)
  clear h hn hm hs hm0
  go_enter Try.func16, Try.ntmps16
  go_wp2
  obtain ⟨r0, r1⟩ := two_boxes w #[.pointer (some ⟨g, 0, none⟩)] #[.string s] 23 9
  have hbel : Below w.heap.size w ((w.alloc (.cells #[.pointer (some ⟨g, 0, none⟩)] 23)).alloc (.cells #[.string s] 9)) := below_alloc (below_alloc (Below.refl _ _) _) _
  have hsz : w.heap.size + 2 ≤ ((w.alloc (.cells #[.pointer (some ⟨g, 0, none⟩)] 23)).alloc (.cells #[.string s] 9)).heap.size := by simp
  generalize (w.alloc (.cells #[.pointer (some ⟨g, 0, none⟩)] 23)).alloc (.cells #[.string s] 9) = w0 at *
  have c0 : w0.cell? ⟨w.heap.size, 0, none⟩ = some (.pointer (some ⟨g, 0, none⟩)) := cell_of_row w0 _ 0 _ _ _ r0
  have c1 : w0.cell? ⟨w.heap.size + 1, 0, none⟩ = some (.string s) := cell_of_row w0 _ 0 _ _ _ r1
  have HBel := Aside0.mk hbel
  have HSz := Aside0.mk hsz
  clear r0 r1 hbel hsz
  go_region_held3 (fun W => W.cell? ⟨w.heap.size, 0, none⟩ = some (.pointer (some ⟨g, 0, none⟩)) ∧ W.cell? ⟨w.heap.size + 1, 0, none⟩ = some (.string s))
    (first | assumption | exact HS2.out | go_keep)
    (first
    | (go_at_call 27; (with_reducible refine (HM.out _ _ _ ((HD.out.below HBel.out).below ((below_alloc (Below.refl _ _) _).drew)) (heap_alloc_new _ _)).mono ?_); rintro x w2 ⟨rfl, hb2⟩; have HB2 := Aside0.mk (((below_alloc (Below.refl w0.heap.size w0) _).drew).trans (hb2.mono (by simp))); have HS2 := Aside0.mk (And.intro (pw_cell_below HB2.out c0) (pw_cell_below HB2.out c1)); clear hb2)
    | (go_at_call 26; (with_reducible refine (HE.out _ _).mono ?_); rintro x w3 ⟨rfl, rfl⟩))
  go_wp2
  all_goals
    go_ret
    exact ⟨rfl, HBel.out.trans (HB2.out.mono HBel.out.size)⟩
set_option maxRecDepth 100000 in
set_option maxHeartbeats 8000000 in
theorem sync_ok (O : Nat → Prop) (g M : Nat) (room armed : Int) (down : Bool) (E : List DEnt) (e : DEnt) (he : e ∈ E) (w : World) (h : DRep O w g M room armed down E) (hn : NamedOk e.name) (hs : e.name.size ≤ 9223372036854775807) (hm : mayR down true E [e.name] = 0) (hB : ∀ k, w.heap.size ≤ k → O k) (ha : armed ≤ 9223372036854775807) :
    Calls Try.prog 16 #[.pointer (some ⟨g, 0, none⟩), .string e.name] w (DoTell O w g M room armed down E (fun E' => E' = updE E e.blk ⟨e.file.bytes, e.file.bytes.length⟩)) := by
  have HD := Aside0.mk h
  have HM := Aside0.mk (fun b c W hD hC => may_one O g M room armed down true E b c e.name W hD hC hn hs)
  rw [hm] at HM
  have HB := Aside0.mk hB
  go_enter Try.func16, Try.ntmps16
  go_wp2
  obtain ⟨r0, r1⟩ := two_boxes w #[.pointer (some ⟨g, 0, none⟩)] #[.string e.name] 23 9
  have hbel : Below w.heap.size w ((w.alloc (.cells #[.pointer (some ⟨g, 0, none⟩)] 23)).alloc (.cells #[.string e.name] 9)) := below_alloc (below_alloc (Below.refl _ _) _) _
  have hsz : w.heap.size + 2 ≤ ((w.alloc (.cells #[.pointer (some ⟨g, 0, none⟩)] 23)).alloc (.cells #[.string e.name] 9)).heap.size := by simp
  generalize (w.alloc (.cells #[.pointer (some ⟨g, 0, none⟩)] 23)).alloc (.cells #[.string e.name] 9) = w0 at *
  have c0 : w0.cell? ⟨w.heap.size, 0, none⟩ = some (.pointer (some ⟨g, 0, none⟩)) := cell_of_row w0 _ 0 _ _ _ r0
  have c1 : w0.cell? ⟨w.heap.size + 1, 0, none⟩ = some (.string e.name) := cell_of_row w0 _ 0 _ _ _ r1
  have HBel := Aside0.mk hbel
  have HSz := Aside0.mk hsz
  clear r0 r1 hbel hsz
  have HK := Aside0.mk (fun (w2 : World) (hb2 : Below w0.heap.size w0 w2) => do_deed (fun k => (O k ∧ k < w.heap.size) ∨ w2.heap.size ≤ k) g M room armed down E (fun E' => E' = updE E e.blk ⟨e.file.bytes, e.file.bytes.length⟩) 32 #[.pointer (some ⟨w.heap.size, 0, none⟩), .pointer (some ⟨w.heap.size + 1, 0, none⟩)] w2 (fun W => by kernel_rfl) ((((HD.out.mono (O' := fun k => O k ∧ k < w.heap.size) (fun k hk hlt => ⟨hk, hlt⟩)).below HBel.out).below hb2).mono (fun k hk _ => .inl hk)) ha (fun W a hD hF => by
    have hd : W.cell? ⟨w.heap.size, 0, none⟩ = some (.pointer (some ⟨g, 0, none⟩)) := box_kept hF (pw_cell_below hb2 c0) (by have := HSz.out; have := hb2.size; omega) (by have := HSz.out; have := hb2.size; omega)
    have hn' : W.cell? ⟨w.heap.size + 1, 0, none⟩ = some (.string e.name) := box_kept hF (pw_cell_below hb2 c1) (by have := HSz.out; have := hb2.size; omega) (by have := HSz.out; have := hb2.size; omega)
    exact (syncF _ g M _ _ room a down E e he W hD hd hn' hs).mono fun x w' ⟨hx, h1, h2⟩ => ⟨hx, _, rfl, h1, h2⟩))
  clear h hn hm hB
  go_region_held3 (fun W => W.cell? ⟨w.heap.size, 0, none⟩ = some (.pointer (some ⟨g, 0, none⟩)) ∧ W.cell? ⟨w.heap.size + 1, 0, none⟩ = some (.string e.name))
    (first | assumption | exact HS3.out | exact HS2.out | go_keep)
    (first
    | (go_at_call 27; (with_reducible refine (HM.out _ _ _ ((HD.out.below HBel.out).below ((below_alloc (Below.refl _ _) _).drew)) (heap_alloc_new _ _)).mono ?_); rintro x w2 ⟨rfl, hb2⟩; have HB2 := Aside0.mk (((below_alloc (Below.refl w0.heap.size w0) _).drew).trans (hb2.mono (by simp))); have HS2 := Aside0.mk (And.intro (pw_cell_below HB2.out c0) (pw_cell_below HB2.out c1)); clear hb2)
    | (go_at_call 26; (with_reducible refine (HK.out w2 HB2.out).mono ?_); rintro x w3 ⟨rfl, h1, h2, h3⟩; have HS3 := Aside0.mk (And.intro (box_kept h3 HS2.out.1 (by have := HSz.out; have := HB2.out.size; omega) (by have := HSz.out; have := HB2.out.size; omega)) (box_kept h3 HS2.out.2 (by have := HSz.out; have := HB2.out.size; omega) (by have := HSz.out; have := HB2.out.size; omega))); have H1 := Aside0.mk h1; have H2 := Aside0.mk h2; have H3 := Aside0.mk h3; clear h1 h2 h3))
  go_wp2
  all_goals
    go_ret
    exact deed_done H1.out H2.out H3.out HB.out (HBel.out.trans (HB2.out.mono HBel.out.size))
set_option maxRecDepth 100000 in
set_option maxHeartbeats 8000000 in
theorem remove_err (O : Nat → Prop) (g M : Nat) (room armed : Int) (down : Bool) (E : List DEnt) (s : ByteArray) (w : World) (h : DRep O w g M room armed down E) (hn : NamedOk s) (hs : s.size ≤ 9223372036854775807) (m : Int) (hm : mayR down true E [s] = m) (hm0 : m ≠ 0) :
    Calls Try.prog 24 #[.pointer (some ⟨g, 0, none⟩), .string s] w fun x w' => x = .returned (.int .i64 m) ∧ Below w.heap.size w w' := by
  have HD := Aside0.mk h
  have HM := Aside0.mk (fun b c W hD hC => may_one O g M room armed down true E b c s W hD hC hn hs)
  rw [hm] at HM
  have HE := Aside0.mk (fun W caps => do_err g m 39 caps W hm0)
  clear h hn hm hs hm0
  go_enter Try.func24, Try.ntmps24
  go_wp2
  obtain ⟨r0, r1⟩ := two_boxes w #[.pointer (some ⟨g, 0, none⟩)] #[.string s] 23 9
  have hbel : Below w.heap.size w ((w.alloc (.cells #[.pointer (some ⟨g, 0, none⟩)] 23)).alloc (.cells #[.string s] 9)) := below_alloc (below_alloc (Below.refl _ _) _) _
  have hsz : w.heap.size + 2 ≤ ((w.alloc (.cells #[.pointer (some ⟨g, 0, none⟩)] 23)).alloc (.cells #[.string s] 9)).heap.size := by simp
  generalize (w.alloc (.cells #[.pointer (some ⟨g, 0, none⟩)] 23)).alloc (.cells #[.string s] 9) = w0 at *
  have c0 : w0.cell? ⟨w.heap.size, 0, none⟩ = some (.pointer (some ⟨g, 0, none⟩)) := cell_of_row w0 _ 0 _ _ _ r0
  have c1 : w0.cell? ⟨w.heap.size + 1, 0, none⟩ = some (.string s) := cell_of_row w0 _ 0 _ _ _ r1
  have HBel := Aside0.mk hbel
  have HSz := Aside0.mk hsz
  clear r0 r1 hbel hsz
  go_region_held3 (fun W => W.cell? ⟨w.heap.size, 0, none⟩ = some (.pointer (some ⟨g, 0, none⟩)) ∧ W.cell? ⟨w.heap.size + 1, 0, none⟩ = some (.string s))
    (first | assumption | exact HS2.out | go_keep)
    (first
    | (go_at_call 27; (with_reducible refine (HM.out _ _ _ ((HD.out.below HBel.out).below ((below_alloc (Below.refl _ _) _).drew)) (heap_alloc_new _ _)).mono ?_); rintro x w2 ⟨rfl, hb2⟩; have HB2 := Aside0.mk (((below_alloc (Below.refl w0.heap.size w0) _).drew).trans (hb2.mono (by simp))); have HS2 := Aside0.mk (And.intro (pw_cell_below HB2.out c0) (pw_cell_below HB2.out c1)); clear hb2)
    | (go_at_call 26; (with_reducible refine (HE.out _ _).mono ?_); rintro x w3 ⟨rfl, rfl⟩))
  go_wp2
  all_goals
    go_ret
    exact ⟨rfl, HBel.out.trans (HB2.out.mono HBel.out.size)⟩
set_option maxRecDepth 100000 in
set_option maxHeartbeats 8000000 in
theorem remove_ok (O : Nat → Prop) (g M : Nat) (room armed : Int) (down : Bool) (E : List DEnt) (s : ByteArray) (w : World) (h : DRep O w g M room armed down E) (hn : NamedOk s) (hs : s.size ≤ 9223372036854775807) (hm : mayR down true E [s] = 0) (hB : ∀ k, w.heap.size ≤ k → O k) (ha : armed ≤ 9223372036854775807) :
    Calls Try.prog 24 #[.pointer (some ⟨g, 0, none⟩), .string s] w (DoTell O w g M room armed down E (fun E' => E' = E.filter (fun e => decide (e.name ≠ s)))) := by
  have HD := Aside0.mk h
  have HM := Aside0.mk (fun b c W hD hC => may_one O g M room armed down true E b c s W hD hC hn hs)
  rw [hm] at HM
  have HB := Aside0.mk hB
  go_enter Try.func24, Try.ntmps24
  go_wp2
  obtain ⟨r0, r1⟩ := two_boxes w #[.pointer (some ⟨g, 0, none⟩)] #[.string s] 23 9
  have hbel : Below w.heap.size w ((w.alloc (.cells #[.pointer (some ⟨g, 0, none⟩)] 23)).alloc (.cells #[.string s] 9)) := below_alloc (below_alloc (Below.refl _ _) _) _
  have hsz : w.heap.size + 2 ≤ ((w.alloc (.cells #[.pointer (some ⟨g, 0, none⟩)] 23)).alloc (.cells #[.string s] 9)).heap.size := by simp
  generalize (w.alloc (.cells #[.pointer (some ⟨g, 0, none⟩)] 23)).alloc (.cells #[.string s] 9) = w0 at *
  have c0 : w0.cell? ⟨w.heap.size, 0, none⟩ = some (.pointer (some ⟨g, 0, none⟩)) := cell_of_row w0 _ 0 _ _ _ r0
  have c1 : w0.cell? ⟨w.heap.size + 1, 0, none⟩ = some (.string s) := cell_of_row w0 _ 0 _ _ _ r1
  have HBel := Aside0.mk hbel
  have HSz := Aside0.mk hsz
  clear r0 r1 hbel hsz
  have HK := Aside0.mk (fun (w2 : World) (hb2 : Below w0.heap.size w0 w2) => do_deed (fun k => (O k ∧ k < w.heap.size) ∨ w2.heap.size ≤ k) g M room armed down E (fun E' => E' = E.filter (fun e => decide (e.name ≠ s))) 39 #[.pointer (some ⟨w.heap.size, 0, none⟩), .pointer (some ⟨w.heap.size + 1, 0, none⟩)] w2 (fun W => by kernel_rfl) ((((HD.out.mono (O' := fun k => O k ∧ k < w.heap.size) (fun k hk hlt => ⟨hk, hlt⟩)).below HBel.out).below hb2).mono (fun k hk _ => .inl hk)) ha (fun W a hD hF => by
    have hd : W.cell? ⟨w.heap.size, 0, none⟩ = some (.pointer (some ⟨g, 0, none⟩)) := box_kept hF (pw_cell_below hb2 c0) (by have := HSz.out; have := hb2.size; omega) (by have := HSz.out; have := hb2.size; omega)
    have hn' : W.cell? ⟨w.heap.size + 1, 0, none⟩ = some (.string s) := box_kept hF (pw_cell_below hb2 c1) (by have := HSz.out; have := hb2.size; omega) (by have := HSz.out; have := hb2.size; omega)
    exact (removeF _ g M _ _ room a down E s W hD hd hn' hs).mono fun x w' ⟨hx, h1, h2⟩ => ⟨hx, _, rfl, h1, h2⟩))
  clear h hn hm hB
  go_region_held3 (fun W => W.cell? ⟨w.heap.size, 0, none⟩ = some (.pointer (some ⟨g, 0, none⟩)) ∧ W.cell? ⟨w.heap.size + 1, 0, none⟩ = some (.string s))
    (first | assumption | exact HS3.out | exact HS2.out | go_keep)
    (first
    | (go_at_call 27; (with_reducible refine (HM.out _ _ _ ((HD.out.below HBel.out).below ((below_alloc (Below.refl _ _) _).drew)) (heap_alloc_new _ _)).mono ?_); rintro x w2 ⟨rfl, hb2⟩; have HB2 := Aside0.mk (((below_alloc (Below.refl w0.heap.size w0) _).drew).trans (hb2.mono (by simp))); have HS2 := Aside0.mk (And.intro (pw_cell_below HB2.out c0) (pw_cell_below HB2.out c1)); clear hb2)
    | (go_at_call 26; (with_reducible refine (HK.out w2 HB2.out).mono ?_); rintro x w3 ⟨rfl, h1, h2, h3⟩; have HS3 := Aside0.mk (And.intro (box_kept h3 HS2.out.1 (by have := HSz.out; have := HB2.out.size; omega) (by have := HSz.out; have := HB2.out.size; omega)) (box_kept h3 HS2.out.2 (by have := HSz.out; have := HB2.out.size; omega) (by have := HSz.out; have := HB2.out.size; omega))); have H1 := Aside0.mk h1; have H2 := Aside0.mk h2; have H3 := Aside0.mk h3; clear h1 h2 h3))
  go_wp2
  all_goals
    go_ret
    exact deed_done H1.out H2.out H3.out HB.out (HBel.out.trans (HB2.out.mono HBel.out.size))
end Go.Proofs.Ytbndgnbhmifefaa
