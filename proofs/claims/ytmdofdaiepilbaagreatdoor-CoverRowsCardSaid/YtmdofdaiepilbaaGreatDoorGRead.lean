/- What reads as data reads as a Lean value: for every type made of numbers, bools, strings, slices and structs, out of the parts' own. Plain lemmas over any program. -/
import Derived.Test.YtmdofdaiepilbaaGreatDoorWWords
import Derived.ProofKit
import Derived.OpenShut
import Derived.SizedLaws
import Derived.Test.YtmdofdaiepilbaaGreatDoorGApi
import Derived.Test.YtmdofdaiepilbaaGreatDoorOpen
import Derived.Test.YtmdofdaiepilbaaGreatDoorValMay
import Derived.Test.YtmdofdaiepilbaaGreatDoorGPush
import Derived.Test.YtmdofdaiepilbaaGreatDoorRows
import Derived.Lib.LaidU8T
import Derived.MakeChecks
namespace Go.Proofs.YtmdofdaiepilbaaGreatDoor
open Go.RowKit Go.Proofs.YtmdofdaiepilbaaGreatDoorW.PrintWords
open Go.WideShapes
set_option linter.unusedVariables false

/-- Values of type t read as d says, and are ok. -/
structure Reads (P : Program) (t : TypeId) {α : Type} (d : Kd α) (ok : α → Prop) : Prop where
  sz : P.cellsOf t = d.sz
  read : ∀ {H : Type} {enc : TypeId × Value → H} {w : World} {base : Nat} {spare : Nat → Bool} {held : Bool} {fuel : Nat} {cs : List Value} {x : DataW H × List MemPlace},
    DataW.trod enc P w base spare held fuel t cs = some x → (∀ n ∈ x.1.weights P t, n ≤ reachBytes) → ∃ a, d.K w a cs ∧ ok a

theorem Reads.int {P : Program} {t : TypeId} {k : IntKind} (hu : P.underlying t = some (.int k)) (hc : P.cellsOf t = 1) : Reads P t (Kd.int k) (fun n => (Lit.int k n).wf = true) :=
  ⟨hc, fun h _ => by
    obtain ⟨n, rfl, _, hw⟩ := DataW.trod_int hu h
    exact ⟨n, rfl, hw⟩⟩
theorem Reads.bool {P : Program} {t : TypeId} (hu : P.underlying t = some .bool) (hc : P.cellsOf t = 1) : Reads P t Kd.bool (fun _ => True) :=
  ⟨hc, fun h _ => by
    obtain ⟨n, rfl, _⟩ := DataW.trod_bool hu h
    exact ⟨n, rfl, trivial⟩⟩
theorem Reads.string {P : Program} {t : TypeId} (hu : P.underlying t = some .string) (hc : P.cellsOf t = 1) : Reads P t Kd.string (fun s => s.size ≤ reachBytes) :=
  ⟨hc, fun h hw => by
    obtain ⟨s, rfl, rfl, _⟩ := DataW.trod_string hu h
    refine ⟨s, rfl, ?_⟩
    have := hw s.data.toList.length (by simp [DataW.weights])
    simpa using this⟩
theorem Reads.mono {P : Program} {t : TypeId} {α : Type} {d : Kd α} {ok ok' : α → Prop} (h : Reads P t d ok) (hk : ∀ a, ok a → ok' a) : Reads P t d ok' :=
  ⟨h.sz, fun h1 h2 => by obtain ⟨a, h3, h4⟩ := h.read h1 h2; exact ⟨a, h3, hk a h4⟩⟩
theorem Reads.iso {P : Program} {t : TypeId} {α β : Type} {d : Kd α} {ok : α → Prop} (h : Reads P t d ok) (f : β → α) (g : α → β) (hg : ∀ a, f (g a) = a) : Reads P t (Kd.iso d f) (fun b => ok (f b)) :=
  ⟨h.sz, fun h1 h2 => by
    obtain ⟨a, h3, h4⟩ := h.read h1 h2
    exact ⟨g a, (by show d.K _ (f (g a)) _; rw [hg]; exact h3), by rw [hg]; exact h4⟩⟩

theorem weights_all {H : Type} {P : Program} {e : TypeId} : ∀ {l : List (DataW H)} {y : DataW H}, y ∈ l → ∀ n ∈ y.weights P e, n ∈ DataW.weightsAll P e l
  | d :: r, y, hy, n, hn => by
    simp only [DataW.weightsAll, List.mem_append]
    rcases List.mem_cons.1 hy with rfl | hy
    · exact .inl hn
    · exact .inr (weights_all hy n hn)
theorem pick {α : Type} {n : Nat} {p : Nat → α → Prop} (h : ∀ i, i < n → ∃ a, p i a) : ∃ l : List α, l.length = n ∧ ∀ i a, l[i]? = some a → p i a := by
  induction n with
  | zero => exact ⟨[], rfl, fun i a h => by simp at h⟩
  | succ n ih =>
    obtain ⟨l, hl, hp⟩ := ih (fun i hi => h i (by omega))
    obtain ⟨a, ha⟩ := h n (by omega)
    refine ⟨l ++ [a], by simp [hl], fun i b hb => ?_⟩
    rw [List.getElem?_append] at hb
    split at hb
    · exact hp i b hb
    · have : i = n := by
        rcases Nat.lt_or_ge (i - l.length) 1 with h1 | h1
        · omega
        · rw [List.getElem?_eq_none (by simpa using h1)] at hb; cases hb
      subst this
      rw [hl, Nat.sub_self] at hb
      cases hb
      exact ha

theorem Reads.slice {P : Program} {t e : TypeId} {α : Type} {d : Kd α} {ok : α → Prop} {bytes : Nat} (hu : P.underlying t = some (.slice e)) (hc : P.cellsOf t = 1) (hb : P.bytesOf e = bytes) (he : Reads P e d ok) :
    Reads P t (Kd.slice e d) (fun l => (∀ a ∈ l, ok a) ∧ l.length * bytes ≤ reachBytes) :=
  ⟨hc, fun {H enc w base spare held fuel cs x} h hw => by
    rcases DataW.trod_slice hu h with ⟨rfl, rfl⟩ | ⟨a, len, cap, elems, rest, n, rfl, rfl, rfl, hbs, hl, hm, hlen, hel, hsp, hns⟩
    · exact ⟨[], ⟨none, 0, rfl, by simp, Kd.C_nil d w⟩, by simp, by simp⟩
    · simp only [DataW.weights, hu] at hw
      have hy : ∀ i, i < len → ∃ c, w.cells? base (a.add (i * P.cellsOf e)) (P.cellsOf e) = some c ∧ ∃ v, d.K w v c ∧ ok v := by
        intro i hi
        have h1 := hel i hi
        have h2 : elems[i]? = some (elems[i]'(by omega)) := List.getElem?_eq_getElem (by omega)
        rw [h2] at h1
        obtain ⟨c, hc1, hc2⟩ := Option.bind_eq_some_iff.1 h1
        refine ⟨c, hc1, he.read hc2 fun n hn => hw n ?_⟩
        refine List.mem_cons_of_mem _ (List.mem_append_left _ (weights_all (y := (elems[i]'(by omega)).1) ?_ n hn))
        exact List.mem_map_of_mem (List.getElem_mem _)
      obtain ⟨l, hll, hlp⟩ := pick (p := fun i v => ∃ c, w.cells? base (a.add (i * P.cellsOf e)) (P.cellsOf e) = some c ∧ d.K w v c ∧ ok v) (fun i hi => by
        obtain ⟨c, h1, v, h2, h3⟩ := hy i hi
        exact ⟨v, c, h1, h2, h3⟩)
      unfold maxLen at hm
      refine ⟨l, ⟨some a, cap, by rw [hll], by omega, ⟨rfl, by omega, fun _ => ⟨a, rfl, fun j p hj => ?_⟩⟩⟩, fun v hv => ?_, ?_⟩
      · obtain ⟨c, h1, h2, _⟩ := hlp j p hj
        obtain ⟨_, h4, h5⟩ := World.cells?_some h1
        refine ⟨c, by rw [h4, he.sz], h2, fun i u hiu => ?_⟩
        have hi : i < c.length := (List.getElem?_eq_some_iff.1 hiu).1
        rw [← he.sz, ← Addr.add_add, h5 i (by omega), hiu]
      · obtain ⟨i, hi, rfl⟩ := List.mem_iff_getElem.1 hv
        obtain ⟨_, _, _, h3⟩ := hlp i _ (List.getElem?_eq_getElem hi)
        exact h3
      · have := hw _ List.mem_cons_self
        simp only [List.length_map] at this
        rw [hb] at this
        have h6 : l.length * bytes ≤ (elems.length + rest.length) * bytes := Nat.mul_le_mul_right _ (by omega)
        omega⟩

/-- The fields from the i-th on, which begin at cell off, read as d says. -/
def ReadsAt (P : Program) (fs : Array Field) (i off : Nat) {α : Type} (d : Kd α) (ok : α → Prop) : Prop :=
  ∀ {H : Type} {enc : TypeId × Value → H} {w : World} {base : Nat} {spare : Nat → Bool} {held : Bool} {n : Nat} {cs : List Value} {xs : List (DataW H × List MemPlace)},
    cs.length = off + d.sz → xs.length = fs.size →
    (∀ (j : Nat) (f : Field), fs[j]? = some f → DataW.trod enc P w base spare held n f.type ((cs.drop f.offset).take (P.cellsOf f.type)) = xs[j]?) →
    (∀ (j : Nat) (f : Field) y, fs[j]? = some f → xs[j]? = some y → ∀ m ∈ y.1.weights P f.type, m ≤ reachBytes) → ∃ a, d.K w a (cs.drop off) ∧ ok a

theorem ReadsAt.last {P : Program} {fs : Array Field} {i off : Nat} {α : Type} {d : Kd α} {ok : α → Prop} {t : TypeId} (hf : (fs[i]?).map (fun f => (f.offset, f.type)) = some (off, t)) (h : Reads P t d ok) : ReadsAt P fs i off d ok := by
  intro H enc w base spare held n cs xs hl hx hr hw
  obtain ⟨f, hf1, h1⟩ := Option.map_eq_some_iff.1 hf
  simp only [Prod.mk.injEq] at h1
  obtain ⟨rfl, rfl⟩ := h1
  have hi : i < xs.length := by rw [hx]; exact (Array.getElem?_eq_some_iff.1 hf1).1
  have h2 := hr i f hf1
  rw [List.getElem?_eq_getElem hi] at h2
  rw [List.take_of_length_le (by rw [List.length_drop, hl, h.sz]; omega)] at h2
  exact h.read h2 (hw i f _ hf1 (List.getElem?_eq_getElem hi))
theorem ReadsAt.cons {P : Program} {fs : Array Field} {i off off' : Nat} {α β : Type} {d : Kd α} {d' : Kd β} {ok : α → Prop} {ok' : β → Prop} {t : TypeId} (hf : (fs[i]?).map (fun f => (f.offset, f.type)) = some (off, t)) (h : Reads P t d ok) (ho : off' = off + d.sz) (h' : ReadsAt P fs (i + 1) off' d' ok') :
    ReadsAt P fs i off (Kd.pair d d') (fun x => ok x.1 ∧ ok' x.2) := by
  intro H enc w base spare held n cs xs hl hx hr hw
  subst ho
  obtain ⟨f, hf1, h1⟩ := Option.map_eq_some_iff.1 hf
  simp only [Prod.mk.injEq] at h1
  obtain ⟨rfl, rfl⟩ := h1
  have hi : i < xs.length := by rw [hx]; exact (Array.getElem?_eq_some_iff.1 hf1).1
  have h2 := hr i f hf1
  rw [List.getElem?_eq_getElem hi] at h2
  obtain ⟨a, ha, hoa⟩ := h.read h2 (hw i f _ hf1 (List.getElem?_eq_getElem hi))
  obtain ⟨b, hb, hob⟩ := h' (H := H) (by rw [hl]; show _ = _ + d.sz + d'.sz; simp only [Kd.pair]; omega) hx hr hw
  refine ⟨(a, b), ⟨_, _, ?_, ha, hb⟩, hoa, hob⟩
  rw [← List.drop_drop, h.sz, List.take_append_drop]
theorem weights_at {H : Type} {P : Program} : ∀ {ts : List TypeId} {ds : List (DataW H)} {j : Nat} {t : TypeId} {y : DataW H}, ts[j]? = some t → ds[j]? = some y → ∀ n ∈ y.weights P t, n ∈ DataW.weightsEach P ts ds :=
  DataW.weights_mem_each
theorem Reads.struct {P : Program} {t : TypeId} {fs : Array Field} {α : Type} {d : Kd α} {ok : α → Prop} (hu : P.underlying t = some (.struct fs)) (hc : P.cellsOf t = d.sz) (h : ReadsAt P fs 0 0 d ok) : Reads P t d ok :=
  ⟨hc, fun {H enc w base spare held fuel cs x} ht hw => by
    obtain ⟨xs, n, rfl, rfl, hl, hx, hr⟩ := DataW.trod_struct hu ht
    have := h (H := H) (cs := cs) (by omega) hx hr (fun j f y hf hy m hm => hw m (by
      simp only [DataW.weights, hu]
      exact weights_at (t := f.type) (j := j) (by rw [List.getElem?_map, Array.getElem?_toList, hf]; rfl) (by rw [List.getElem?_map, hy]; rfl) m hm))
    simpa using this⟩
end Go.Proofs.YtmdofdaiepilbaaGreatDoor
namespace Go.Proofs.YtmdofdaiepilbaaGreatDoor.Open
open Go.RowKit Go.Proofs.YtmdofdaiepilbaaGreatDoorW.PrintWords
open Go.WideShapes
/-- A slice argument, opened to the bottom. -/
theorem deep {P : Program} {H : Type} {enc : TypeId × Value → H} {W : World} {base j : Nat} {t e : TypeId} {α : Type} {d : Kd α} {ok : List α → Prop} {v : Value} {dv : DataW H} {p : List MemPlace} {ts : List TypeId} {ds : List (DataW H)}
    (R : Reads P t (Kd.slice e d) ok) (hu : P.underlying t = some (.slice e)) (hsz : (DataW.weightsEach P ts ds).all (· ≤ reachBytes) = true) (ht : ts[j]? = some t) (hd : ds[j]? = some dv)
    (hv : Value.okWide P W .any base t v) (h : DataW.Trod enc P W 0 (fun _ => true) true t v dv p) :
    ∃ A c l, v = .slice A l.length c ∧ d.C W A l.length l ∧ l.length ≤ c ∧ ok l := by
  obtain ⟨a, len, cap, rfl⟩ := okWide_slice hu hv
  obtain ⟨fuel, hf⟩ := h
  obtain ⟨l, ⟨A, c, h1, h2, h3⟩, h4⟩ := R.read hf (fun n hn => by
    have := List.all_eq_true.1 hsz _ (DataW.weights_mem_each ht hd n hn)
    simpa using this)
  simp [Value.cells] at h1
  obtain ⟨rfl, rfl, rfl⟩ := h1
  exact ⟨_, _, l, rfl, h3, h2, h4⟩
end Go.Proofs.YtmdofdaiepilbaaGreatDoor.Open

/- What reads as data at the api's types reads as a value, a column, an event. -/
namespace Go.Proofs.YtmdofdaiepilbaaGreatDoor
open Go.RowKit Go.Proofs.YtmdofdaiepilbaaGreatDoorW.PrintWords
set_option linter.unusedVariables false
def fits64 (n : Int) : Prop := (Lit.int .i64 n).wf = true
theorem fits64.bounds {n : Int} (h : fits64 n) : -9223372036854775808 ≤ n ∧ n ≤ 9223372036854775807 := Open.i64_bounds h
theorem rd_int : Reads Tryz.prog 3 (Kd.int .i64) fits64 := Reads.int Tryz.underlying3 (by kernel_rfl)
theorem rd_str : Reads Tryz.prog 9 Kd.string (fun s => s.size ≤ reachBytes) := Reads.string Tryz.underlying9 (by kernel_rfl)
theorem rd_bool : Reads Tryz.prog 4 Kd.bool (fun _ => True) := Reads.bool Tryz.underlying4 (by kernel_rfl)
theorem rd_Val : Reads Tryz.prog 75 kVal (fun x => fits64 x.kind ∧ fits64 x.num ∧ x.text.size ≤ reachBytes) :=
  Reads.iso (Reads.struct Tryz.underlying75 (by kernel_rfl) (ReadsAt.cons (i := 0) rfl rd_int rfl (ReadsAt.cons (i := 1) rfl rd_int rfl (ReadsAt.last (i := 2) rfl rd_str)))) (fun x : Val => (x.kind, x.num, x.text)) (fun p => ⟨p.1, p.2.1, p.2.2⟩) (fun _ => rfl)
theorem rd_Col : Reads Tryz.prog 51 kCol (fun x => x.name.size ≤ reachBytes ∧ fits64 x.kind ∧ True) :=
  Reads.iso (Reads.struct Tryz.underlying51 (by kernel_rfl) (ReadsAt.cons (i := 0) rfl rd_str rfl (ReadsAt.cons (i := 1) rfl rd_int rfl (ReadsAt.last (i := 2) rfl rd_bool)))) (fun x : Col => (x.name, x.kind, x.none)) (fun p => ⟨p.1, p.2.1, p.2.2⟩) (fun _ => rfl)
def valOk (x : Val) : Prop := fits64 x.kind ∧ fits64 x.num ∧ x.text.size ≤ reachBytes
def colOk (x : Col) : Prop := x.name.size ≤ reachBytes ∧ fits64 x.kind ∧ True
def rowOk (l : List Val) : Prop := (∀ a ∈ l, valOk a) ∧ l.length * 32 ≤ reachBytes
def colsOk (l : List Col) : Prop := (∀ a ∈ l, colOk a) ∧ l.length * 32 ≤ reachBytes
theorem rd_row : Reads Tryz.prog 49 (Kd.slice 75 kVal) rowOk := Reads.slice Tryz.underlying49 (by kernel_rfl) (by kernel_rfl) rd_Val
theorem rd_vals : Reads Tryz.prog 48 (Kd.slice 75 kVal) rowOk := Reads.slice Tryz.underlying48 (by kernel_rfl) (by kernel_rfl) rd_Val
theorem rd_cols : Reads Tryz.prog 41 (Kd.slice 51 kCol) colsOk := Reads.slice Tryz.underlying41 (by kernel_rfl) (by kernel_rfl) rd_Col
def schOk (x : Sch) : Prop := colsOk x.cols ∧ fits64 x.keys
theorem rd_Sch : Reads Tryz.prog 43 kSch schOk :=
  Reads.iso (Reads.struct Tryz.underlying43 (by kernel_rfl) (ReadsAt.cons (i := 0) rfl rd_cols rfl (ReadsAt.last (i := 1) rfl rd_int))) (fun x : Sch => (x.cols, x.keys)) (fun p => ⟨p.1, p.2⟩) (fun _ => rfl)
def chgOk (x : Chg) : Prop := fits64 x.kind ∧ x.table.size ≤ reachBytes ∧ schOk x.schema ∧ colOk x.column
theorem rd_Chg : Reads Tryz.prog 53 kChg chgOk :=
  Reads.iso (Reads.struct Tryz.underlying53 (by kernel_rfl) (ReadsAt.cons (i := 0) rfl rd_int rfl (ReadsAt.cons (i := 1) rfl rd_str rfl (ReadsAt.cons (i := 2) rfl rd_Sch rfl (ReadsAt.last (i := 3) rfl rd_Col))))) (fun x : Chg => (x.kind, x.table, x.schema, x.column)) (fun p => ⟨p.1, p.2.1, p.2.2.1, p.2.2.2⟩) (fun _ => rfl)
def evOk (x : Ev) : Prop := fits64 x.kind ∧ fits64 x.num ∧ x.table.size ≤ reachBytes ∧ rowOk x.before ∧ rowOk x.after ∧ chgOk x.change
theorem rd_Ev : Reads Tryz.prog 55 kEv evOk :=
  Reads.iso (Reads.struct Tryz.underlying55 (by kernel_rfl) (ReadsAt.cons (i := 0) rfl rd_int rfl (ReadsAt.cons (i := 1) rfl rd_int rfl (ReadsAt.cons (i := 2) rfl rd_str rfl (ReadsAt.cons (i := 3) rfl rd_row rfl (ReadsAt.cons (i := 4) rfl rd_row rfl (ReadsAt.last (i := 5) rfl rd_Chg))))))) (fun x : Ev => (x.kind, x.num, x.table, x.before, x.after, x.change)) (fun p => ⟨p.1, p.2.1, p.2.2.1, p.2.2.2.1, p.2.2.2.2.1, p.2.2.2.2.2⟩) (fun _ => rfl)
def evsOk (l : List Ev) : Prop := (∀ a ∈ l, evOk a) ∧ l.length * 168 ≤ reachBytes
theorem rd_evs : Reads Tryz.prog 24 (Kd.slice 55 kEv) evsOk := Reads.slice Tryz.underlying24 (by kernel_rfl) (by kernel_rfl) rd_Ev
end Go.Proofs.YtmdofdaiepilbaaGreatDoor

/- What the rows' list of variables says of the tables of UTF-8; what reads as data at tables and works. -/
namespace Go.Proofs.YtmdofdaiepilbaaGreatDoor
open Go.RowKit Go.Proofs.YtmdofdaiepilbaaGreatDoorW.PrintWords
set_option linter.unusedVariables false
theorem u8types : U8Types Tryz.prog Tryz.laysValid_ren := U8Types.of196 Tryz.laysValid
theorem u8extra : U8Extra Tryz.prog Tryz.laysValid_ren := ⟨by kernel_rfl, by kernel_rfl, by kernel_rfl, by kernel_rfl, by kernel_rfl, by kernel_rfl, by kernel_rfl⟩
theorem first_is : Rows.laid_unicode_utf8_first = Lib.firstData := by kernel_rfl
theorem accept_is : (Rows.laid_unicode_utf8_acceptRanges : DataW Unit) = Lib.acceptData := by kernel_rfl
theorem tabsU_laid {w : World} (h : laidMetH Tryz.prog [("unicode/utf8.acceptRanges", Rows.laid_unicode_utf8_acceptRanges), ("unicode/utf8.first", Rows.laid_unicode_utf8_first)] w) : TabsU w := by
  rw [MakeChecks.laidMetH_plain _ _ _ (by kernel_rfl)] at h
  refine utf8Tabs_of_readsT u8types u8extra ?_ ?_
  · rw [← first_is]; exact Lib.laidMet.reads h (by simp)
  · rw [← accept_is]; exact Lib.laidMet.reads h (by simp)
def tabOk (x : Tab) : Prop := x.name.size ≤ reachBytes ∧ schOk x.schema
theorem rd_Tab : Reads Tryz.prog 45 kTab tabOk :=
  Reads.iso (Reads.struct Tryz.underlying45 (by kernel_rfl) (ReadsAt.cons (i := 0) rfl rd_str rfl (ReadsAt.last (i := 1) rfl rd_Sch))) (fun x : Tab => (x.name, x.schema)) (fun p => ⟨p.1, p.2⟩) (fun _ => rfl)
def wrkOk (x : Wrk) : Prop := x.table.size ≤ reachBytes ∧ True ∧ x.key.size ≤ reachBytes
theorem rd_Wrk : Reads Tryz.prog 47 kWrk wrkOk :=
  Reads.iso (Reads.struct Tryz.underlying47 (by kernel_rfl) (ReadsAt.cons (i := 0) rfl rd_str rfl (ReadsAt.cons (i := 1) rfl rd_bool rfl (ReadsAt.last (i := 2) rfl rd_str)))) (fun x : Wrk => (x.table, x.done, x.key)) (fun p => ⟨p.1, p.2.1, p.2.2⟩) (fun _ => rfl)
def tabsOk (l : List Tab) : Prop := (∀ a ∈ l, tabOk a) ∧ l.length * 48 ≤ reachBytes
theorem rd_tabs : Reads Tryz.prog 22 (Kd.slice 45 kTab) tabsOk := Reads.slice Tryz.underlying22 (by kernel_rfl) (by kernel_rfl) rd_Tab
def wrksOk (l : List Wrk) : Prop := (∀ a ∈ l, wrkOk a) ∧ l.length * 40 ≤ reachBytes
theorem rd_wrks : Reads Tryz.prog 23 (Kd.slice 47 kWrk) wrksOk := Reads.slice Tryz.underlying23 (by kernel_rfl) (by kernel_rfl) rd_Wrk
def valssOk (l : List (List Val)) : Prop := (∀ a ∈ l, rowOk a) ∧ l.length * 24 ≤ reachBytes
theorem rd_valss : Reads Tryz.prog 61 (Kd.slice 48 kRow) valssOk := Reads.slice Tryz.underlying61 (by kernel_rfl) (by kernel_rfl) rd_vals
theorem numT_ok {l : List Tab} (h : tabsOk l) : ∀ t ∈ l, (-9223372036854775808 ≤ t.schema.keys ∧ t.schema.keys ≤ 9223372036854775807) ∧ ∀ x ∈ t.schema.cols, -9223372036854775808 ≤ x.kind ∧ x.kind ≤ 9223372036854775807 := fun t ht =>
  ⟨(h.1 t ht).2.2.bounds, fun x hx => ((h.1 t ht).2.1.1 x hx).2.1.bounds⟩
theorem rowOk_num {l : List Val} (h : rowOk l) : ∀ v ∈ l, -9223372036854775808 ≤ v.num ∧ v.num ≤ 9223372036854775807 := fun v hv => (h.1 v hv).2.1.bounds
theorem rowOk_txt {l : List Val} (h : rowOk l) : ∀ v ∈ l, v.text.size ≤ 9223372036854775000 := fun v hv => by
  have h1 := (h.1 v hv).2.2
  have hr : reachBytes ≤ 140737488355328 := by unfold reachBytes; omega
  omega
end Go.Proofs.YtmdofdaiepilbaaGreatDoor
