/- A disk as a state: its files in a list; what each call does to it. Conditions: the disk stands where the pointer points; named serves at the names; numbers fit. -/
import Derived.Test.YtbndgnbhmifefaaDkRenameD
namespace Go.Proofs.Ytbndgnbhmifefaa
open Go.RowKit Go.Proofs.YtbndgnbhmifefaaW.PrintWords Go.Proofs.YtbndgnbhmifefaaW.PrintMore
set_option linter.unusedVariables false
set_option linter.unusedSimpArgs false
abbrev DList := List (ByteArray × DFile)
def nf (e : DEnt) : ByteArray × DFile := (e.name, e.file)
structure DS where
  room : Int
  armed : Int
  down : Bool
  L : DList
def hasL (L : DList) (s : ByteArray) : Bool := L.any (fun p => decide (p.1 = s))
def getL (L : DList) (s : ByteArray) : DFile := ((L.find? (fun p => decide (p.1 = s))).map (·.2)).getD ⟨[], 0⟩
def updL (L : DList) (s : ByteArray) (f : DFile) : DList := L.map (fun p => if p.1 = s then (p.1, f) else p)
def delL (L : DList) (s : ByteArray) : DList := L.filter (fun p => decide (p.1 ≠ s))
def totalL (L : DList) : Nat := (L.map (fun p => p.2.bytes.length)).sum
def mayS (d : DS) (there : Bool) (names : List ByteArray) : Int := mayN d.down there (badB names) (hasL d.L (rdS names 0))
def DS.goes (d : DS) (L' : DList) : DS := if d.armed = 0 then { d with armed := -1, down := true } else { d with armed := doA d.armed, L := L' }
structure Has (O : Nat → Prop) (w0 w : World) (g M : Nat) (d : DS) : Prop where
  hB : ∀ k, w.heap.size ≤ k → O k
  frame : DFrame O w0 w
  rep : ∃ E : List DEnt, E.map nf = d.L ∧ DRep O w g M d.room d.armed d.down E
theorem hasL_nf (E : List DEnt) (s : ByteArray) : hasL (E.map nf) s = hasB E s := by
  unfold hasL hasB
  rw [List.any_map]
  rfl
theorem totalL_nf (E : List DEnt) : totalL (E.map nf) = totalE E := by
  unfold totalL totalE
  rw [List.map_map]
  rfl
theorem delL_nf (E : List DEnt) (s : ByteArray) : (E.filter (fun e => decide (e.name ≠ s))).map nf = delL (E.map nf) s := by
  unfold delL
  rw [List.filter_map]
  rfl
theorem updL_nf {E : List DEnt} (hn : (E.map (·.name)).Nodup) (hb : (E.map (·.blk)).Nodup) {e : DEnt} (he : e ∈ E) (f : DFile) : (updE E e.blk f).map nf = updL (E.map nf) e.name f := by
  unfold updE updL
  rw [List.map_map, List.map_map]
  refine List.map_congr_left fun x hx => ?_
  by_cases h : x.name = e.name
  · have : x = e := nodup_inj hn hx he h
    subst this
    simp [nf]
  · have h2 : x.blk ≠ e.blk := fun hh => h (by rw [nodup_inj hb hx he hh])
    simp [nf, h, h2]
theorem getL_nf {E : List DEnt} (hn : (E.map (·.name)).Nodup) {e : DEnt} (he : e ∈ E) : getL (E.map nf) e.name = e.file := by
  unfold getL
  rw [List.find?_map]
  cases hf : E.find? ((fun p : ByteArray × DFile => decide (p.1 = e.name)) ∘ nf) with
  | none =>
    have := List.find?_eq_none.1 hf e he
    simp [nf] at this
  | some x =>
    have h1 := List.mem_of_find?_eq_some hf
    have h2 := List.find?_some hf
    have h3 : x.name = e.name := of_decide_eq_true h2
    rw [nodup_inj hn h1 he h3]
    rfl
theorem mayS_nf {d : DS} {E : List DEnt} (h : E.map nf = d.L) (there : Bool) (names : List ByteArray) : mayR d.down there E names = mayS d there names := by
  unfold mayR mayS
  rw [← h, hasL_nf]
theorem may_yes {d : DS} {names : List ByteArray} (h : mayS d true names = 0) : d.down = false ∧ badB names = false ∧ hasL d.L (rdS names 0) = true := by
  unfold mayS mayN at h
  cases h1 : d.down <;> cases h2 : badB names <;> cases h3 : hasL d.L (rdS names 0) <;> simp [h1, h2, h3] at h ⊢
theorem may_no {d : DS} {names : List ByteArray} (h : mayS d false names = 0) : d.down = false ∧ badB names = false ∧ hasL d.L (rdS names 0) = false := by
  unfold mayS mayN at h
  cases h1 : d.down <;> cases h2 : badB names <;> cases h3 : hasL d.L (rdS names 0) <;> simp [h1, h2, h3] at h ⊢
variable {O : Nat → Prop} {w0 : World} {g M : Nat} {d : DS}
theorem Has.below {w w' : World} (h : Has O w0 w g M d) (hb : Below w.heap.size w w') : Has O w0 w' g M d :=
  ⟨fun k hk => h.hB k (by have := hb.size; omega), h.frame.trans (DFrame.of hb), by obtain ⟨E, h1, h2⟩ := h.rep; exact ⟨E, h1, h2.below hb⟩⟩
theorem Has.ent {w : World} (h : Has O w0 w g M d) {s : ByteArray} (hh : hasL d.L s = true) : ∃ E e, E.map nf = d.L ∧ DRep O w g M d.room d.armed d.down E ∧ e ∈ E ∧ e.name = s ∧ getL d.L s = e.file := by
  obtain ⟨E, h1, h2⟩ := h.rep
  rw [← h1, hasL_nf] at hh
  obtain ⟨e, he, h3⟩ := hasB_ent hh
  refine ⟨E, e, h1, h2, he, h3, ?_⟩
  rw [← h1, ← h3]
  exact getL_nf h2.names he
theorem total_ge : ∀ {E : List DEnt} {e : DEnt}, e ∈ E → e.file.bytes.length ≤ totalE E
  | [], _, h => by cases h
  | x :: E, e, h => by
    rw [total_cons]
    rcases List.mem_cons.1 h with rfl | h
    · omega
    · have := total_ge h; omega
theorem tell_has {w w' : World} {E : List DEnt} {Post : List DEnt → Prop} {x : Ending} {L' : DList} (h : Has O w0 w g M d) (hd : d.down = false) (hE : E.map nf = d.L) (ht : DoTell O w g M d.room d.armed d.down E Post x w') (hP : ∀ E', Post E' → E'.map nf = L') :
    x = .returned (.int .i64 (doN d.armed)) ∧ Has O w0 w' g M (d.goes L') := by
  obtain ⟨h0, h1, h2, h3⟩ := ht
  refine ⟨h0, fun k hk => h.hB k (by have := h3.size; omega), h.frame.trans h3, ?_⟩
  unfold DS.goes
  by_cases ha : d.armed = 0
  · rw [if_pos ha]
    exact ⟨E, hE, h1 ha⟩
  · rw [if_neg ha]
    obtain ⟨E', hp, hr⟩ := h2 ha
    exact ⟨E', hP E' hp, hr⟩
theorem create_h {s : ByteArray} (hn : NamedOk s) (hs : s.size ≤ 9223372036854775807) (w : World) (h : Has O w0 w g M d) (hE : d.L.length ≤ 100000) (ha : d.armed ≤ 9223372036854775807) :
    Calls Try.prog 11 #[.pointer (some ⟨g, 0, none⟩), .string s] w fun x w' => x = .returned (.int .i64 (if mayS d false [s] = 0 then doN d.armed else mayS d false [s])) ∧ Has O w0 w' g M (if mayS d false [s] = 0 then d.goes ((s, ⟨[], 0⟩) :: d.L) else d) := by
  obtain ⟨E, h1, h2⟩ := h.rep
  by_cases hm : mayS d false [s] = 0
  · rw [if_pos hm, if_pos hm]
    obtain ⟨hd, _, hno⟩ := may_no hm
    have hno' : hasB E s = false := by rw [← hasL_nf, h1]; exact hno
    refine (create_ok O g M d.room d.armed d.down E s (hasB_not hno') (by rw [← List.length_map (f := nf), h1]; exact hE) w h2 hn hs ((mayS_nf h1 _ _).trans hm) h.hB ha).mono ?_
    intro x w' ht
    exact tell_has h hd h1 ht (fun E' hp => by obtain ⟨b, hb, rfl⟩ := hp; rw [List.map_cons, h1]; rfl)
  · rw [if_neg hm, if_neg hm]
    refine (create_err O g M d.room d.armed d.down E s w h2 hn hs _ (mayS_nf h1 _ _) hm).mono ?_
    rintro x w' ⟨rfl, hb⟩
    exact ⟨rfl, h.below hb⟩
theorem sync_h {s : ByteArray} (hn : NamedOk s) (hs : s.size ≤ 9223372036854775807) (w : World) (h : Has O w0 w g M d) (ha : d.armed ≤ 9223372036854775807) :
    Calls Try.prog 16 #[.pointer (some ⟨g, 0, none⟩), .string s] w fun x w' => x = .returned (.int .i64 (if mayS d true [s] = 0 then doN d.armed else mayS d true [s])) ∧ Has O w0 w' g M (if mayS d true [s] = 0 then d.goes (updL d.L s ⟨(getL d.L s).bytes, (getL d.L s).bytes.length⟩) else d) := by
  by_cases hm : mayS d true [s] = 0
  · rw [if_pos hm, if_pos hm]
    obtain ⟨hd, _, hyes⟩ := may_yes hm
    obtain ⟨E, e, h1, h2, he, hes, hf⟩ := h.ent (s := s) hyes
    subst hes
    refine (sync_ok O g M d.room d.armed d.down E e he w h2 hn hs ((mayS_nf h1 _ _).trans hm) h.hB ha).mono ?_
    intro x w' ht
    exact tell_has h hd h1 ht (fun E' hp => by rw [hp, updL_nf h2.names h2.blks he, h1, hf])
  · rw [if_neg hm, if_neg hm]
    obtain ⟨E, h1, h2⟩ := h.rep
    refine (sync_err O g M d.room d.armed d.down E s w h2 hn hs _ (mayS_nf h1 _ _) hm).mono ?_
    rintro x w' ⟨rfl, hb⟩
    exact ⟨rfl, h.below hb⟩
theorem remove_h {s : ByteArray} (hn : NamedOk s) (hs : s.size ≤ 9223372036854775807) (w : World) (h : Has O w0 w g M d) (ha : d.armed ≤ 9223372036854775807) :
    Calls Try.prog 24 #[.pointer (some ⟨g, 0, none⟩), .string s] w fun x w' => x = .returned (.int .i64 (if mayS d true [s] = 0 then doN d.armed else mayS d true [s])) ∧ Has O w0 w' g M (if mayS d true [s] = 0 then d.goes (delL d.L s) else d) := by
  obtain ⟨E, h1, h2⟩ := h.rep
  by_cases hm : mayS d true [s] = 0
  · rw [if_pos hm, if_pos hm]
    obtain ⟨hd, _, hyes⟩ := may_yes hm
    refine (remove_ok O g M d.room d.armed d.down E s w h2 hn hs ((mayS_nf h1 _ _).trans hm) h.hB ha).mono ?_
    intro x w' ht
    exact tell_has h hd h1 ht (fun E' hp => by rw [hp, delL_nf, h1])
  · rw [if_neg hm, if_neg hm]
    refine (remove_err O g M d.room d.armed d.down E s w h2 hn hs _ (mayS_nf h1 _ _) hm).mono ?_
    rintro x w' ⟨rfl, hb⟩
    exact ⟨rfl, h.below hb⟩
theorem rename_h {s t : ByteArray} (hn : NamedOk s) (hs : s.size ≤ 9223372036854775807) (hnt : NamedOk t) (hst : t.size ≤ 9223372036854775807) (w : World) (h : Has O w0 w g M d) (hE : d.L.length ≤ 100000) (ha : d.armed ≤ 9223372036854775807) :
    Calls Try.prog 20 #[.pointer (some ⟨g, 0, none⟩), .string s, .string t] w fun x w' => x = .returned (.int .i64 (if mayS d true [s, t] = 0 then doN d.armed else mayS d true [s, t])) ∧ Has O w0 w' g M (if mayS d true [s, t] = 0 then d.goes ((t, getL d.L s) :: delL (delL d.L s) t) else d) := by
  by_cases hm : mayS d true [s, t] = 0
  · rw [if_pos hm, if_pos hm]
    obtain ⟨hd, _, hyes⟩ := may_yes hm
    obtain ⟨E, e, h1, h2, he, hes, hf⟩ := h.ent (s := s) hyes
    subst hes
    refine (rename_ok O g M d.room d.armed d.down E e he t w h2 hn hs hnt hst ((mayS_nf h1 _ _).trans hm) (by rw [← List.length_map (f := nf), h1]; exact hE) h.hB ha).mono ?_
    intro x w' ht
    exact tell_has h hd h1 ht (fun E' hp => by rw [hp, hf]; unfold renE; rw [List.map_cons, delL_nf, delL_nf, h1]; rfl)
  · rw [if_neg hm, if_neg hm]
    obtain ⟨E, h1, h2⟩ := h.rep
    refine (rename_err O g M d.room d.armed d.down E s t w h2 hn hs hnt hst _ (mayS_nf h1 _ _) hm).mono ?_
    rintro x w' ⟨rfl, hb⟩
    exact ⟨rfl, h.below hb⟩
/-- what Append tells, and what there is behind it -/
def appN' (d : DS) (s : ByteArray) (n : Nat) : Int := if mayS d true [s] = 0 then (if d.room - (totalL d.L : Int) < (n : Int) then 11 else doN d.armed) else mayS d true [s]
def appS (d : DS) (s : ByteArray) (bs : List Int) : DS := if mayS d true [s] = 0 then (if d.room - (totalL d.L : Int) < (bs.length : Int) then d else ({ d with L := updL d.L s ⟨(getL d.L s).bytes ++ bs, (getL d.L s).kept⟩ } : DS).goes (updL d.L s ⟨(getL d.L s).bytes ++ bs, (getL d.L s).kept⟩)) else d
theorem app_h {s : ByteArray} (hn : NamedOk s) (hs : s.size ≤ 9223372036854775807) (B : Option Addr) (n cb : Nat) (bs : List Int) (w : World) (h : Has O w0 w g M d) (hnl : n = bs.length) (hC : Kd.C kByt w B bs.length bs) (hcb : bs.length ≤ cb) (hl : bs.length ≤ 1000000) (hr : 0 ≤ d.room) (hr' : d.room ≤ 1000000) (ht : totalL d.L ≤ 1000000) (ha : d.armed ≤ 9223372036854775807) :
    Calls Try.prog 12 #[.pointer (some ⟨g, 0, none⟩), .string s, .slice B n cb] w fun x w' => x = .returned (.int .i64 (appN' d s bs.length)) ∧ Has O w0 w' g M (appS d s bs) := by
  subst hnl
  unfold appN' appS
  by_cases hm : mayS d true [s] = 0
  · rw [if_pos hm, if_pos hm]
    obtain ⟨hd, _, hyes⟩ := may_yes hm
    obtain ⟨E, e, h1, h2, he, hes, hf⟩ := h.ent (s := s) hyes
    subst hes
    have ht' : totalE E ≤ 1000000 := by rw [← totalL_nf, h1]; exact ht
    have hmr := (mayS_nf h1 _ _).trans hm
    have hte : (totalL d.L : Int) = (totalE E : Int) := by rw [← totalL_nf, h1]
    by_cases hfull : d.room - (totalL d.L : Int) < (bs.length : Int)
    · rw [if_pos hfull, if_pos hfull]
      refine (app_full O g M d.room d.armed d.down E e.name B bs.length cb w h2 hn hs hmr hr (by omega) ht' (by omega) (by rw [← hte]; exact hfull)).mono ?_
      rintro x w' ⟨rfl, hb⟩
      exact ⟨rfl, h.below hb⟩
    · rw [if_neg hfull, if_neg hfull]
      have hle := total_ge he
      refine (app_ok O g M d.room d.armed d.down E e he B cb bs w h2 hn hs hmr hr (by omega) ht' (by omega) hC hcb h.hB ha (by omega)).mono ?_
      rintro x w' ⟨h0, k1, k2, k3⟩
      have hu : (updE E e.blk ⟨e.file.bytes ++ bs, e.file.kept⟩).map nf = updL d.L e.name ⟨(getL d.L e.name).bytes ++ bs, (getL d.L e.name).kept⟩ := by rw [updL_nf h2.names h2.blks he, h1, hf]
      refine ⟨h0, fun k hk => h.hB k (by have := k3.size; omega), h.frame.trans k3, ?_⟩
      unfold DS.goes
      simp only
      by_cases ha0 : d.armed = 0
      · rw [if_pos ha0]
        exact ⟨_, hu, k1 ha0⟩
      · rw [if_neg ha0]
        obtain ⟨E', hp, hr2⟩ := k2 ha0
        exact ⟨E', by rw [hp]; exact hu, hr2⟩
  · rw [if_neg hm, if_neg hm]
    obtain ⟨E, h1, h2⟩ := h.rep
    refine (app_err O g M d.room d.armed d.down E s B bs.length cb w h2 hn hs _ (mayS_nf h1 _ _) hm).mono ?_
    rintro x w' ⟨rfl, hb⟩
    exact ⟨rfl, h.below hb⟩
theorem arm_h (n : Int) (w : World) (h : Has O w0 w g M d) :
    Calls Try.prog 17 #[.pointer (some ⟨g, 0, none⟩), .int .i64 n] w fun x w' => x = .returned (.tuple #[]) ∧ Has O w0 w' g M { d with armed := max n (-1) } := by
  obtain ⟨E, h1, h2⟩ := h.rep
  refine (arm_calls O g M d.room d.armed d.down E n w h2).mono ?_
  rintro x w' ⟨rfl, k1, k3⟩
  exact ⟨rfl, fun k hk => h.hB k (by have := k3.size; omega), h.frame.trans k3, E, h1, k1⟩
theorem down_h (w : World) (h : Has O w0 w g M d) :
    Calls Try.prog 18 #[.pointer (some ⟨g, 0, none⟩)] w fun x w' => x = .returned (.bool d.down) ∧ w' = w := by
  obtain ⟨E, h1, h2⟩ := h.rep
  exact down_calls O g M d.room d.armed d.down E w h2
theorem free_h (w : World) (h : Has O w0 w g M d) (hr : 0 ≤ d.room) (hr' : d.room ≤ 1000000) (ht : totalL d.L ≤ 1000000) :
    Calls Try.prog 14 #[.pointer (some ⟨g, 0, none⟩)] w fun x w' => x = .returned (.int .i64 (d.room - (totalL d.L : Int))) ∧ Has O w0 w' g M d ∧ Below w.heap.size w w' := by
  obtain ⟨E, h1, h2⟩ := h.rep
  have hte : (totalL d.L : Int) = (totalE E : Int) := by rw [← totalL_nf, h1]
  refine (free_calls O g M d.room d.armed d.down E w h2 hr (by omega) (by omega)).mono ?_
  rintro x w' ⟨rfl, hb⟩
  exact ⟨by rw [hte], h.below hb, hb⟩
theorem read_h {s : ByteArray} (hn : NamedOk s) (hs : s.size ≤ 9223372036854775807) (w : World) (h : Has O w0 w g M d) (hm : mayS d true [s] = 0) (ht : totalL d.L ≤ 1000000) :
    Calls Try.prog 13 #[.pointer (some ⟨g, 0, none⟩), .string s] w fun x w' => Has O w0 w' g M d ∧ ReadTell w (getL d.L s).bytes x w' := by
  obtain ⟨hd, _, hyes⟩ := may_yes hm
  obtain ⟨E, e, h1, h2, he, hes, hf⟩ := h.ent (s := s) hyes
  subst hes
  have hte : totalL d.L = totalE E := by rw [← totalL_nf, h1]
  refine (read_ok O g M d.room d.armed d.down E e he w h2 hn hs ((mayS_nf h1 _ _).trans hm) (by have := total_ge he; omega)).mono ?_
  intro x w' hx
  rw [hf]
  obtain ⟨v, b, q1, q2, q3, q4⟩ := hx
  exact ⟨h.below q4, v, b, q1, q2, q3, q4⟩
theorem read_no {s : ByteArray} (hn : NamedOk s) (hs : s.size ≤ 9223372036854775807) (w : World) (h : Has O w0 w g M d) (hm : mayS d true [s] ≠ 0) :
    Calls Try.prog 13 #[.pointer (some ⟨g, 0, none⟩), .string s] w fun x w' => x = .returned (.tuple #[.slice none 0 0, .int .i64 (mayS d true [s])]) ∧ Has O w0 w' g M d ∧ Below w.heap.size w w' := by
  obtain ⟨E, h1, h2⟩ := h.rep
  refine (read_err O g M d.room d.armed d.down E s w h2 hn hs _ (mayS_nf h1 _ _) hm).mono ?_
  rintro x w' ⟨rfl, hb⟩
  exact ⟨rfl, h.below hb, hb⟩
end Go.Proofs.Ytbndgnbhmifefaa
