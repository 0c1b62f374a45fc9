/- The document's Good of tables: tables that may be, made of any. Conditions: the tables read so; their numbers are of their size. -/
import Derived.Test.YtmdofdaiepilbaaGreatDoorFollow06
import Derived.Test.YtmdofdaiepilbaaGreatDoorGood04
namespace Go.Proofs.YtmdofdaiepilbaaGreatDoor
open Go.RowKit Go.Proofs.YtmdofdaiepilbaaGreatDoorW.PrintWords
set_option linter.unusedVariables false
set_option linter.unusedSimpArgs false
/-- tables that may be, of few columns -/
def okTabs (l : List Tab) : Prop := sortT l ∧ ∀ t ∈ l, nameB t.name = true ∧ mayB t.schema.cols t.schema.keys = true ∧ t.schema.cols.length ≤ 6
theorem hasT_false {l : List Tab} (hs : sortT l) {s : ByteArray} (hh : hasT l s = false) {k : Nat} (hk : posT l s ≤ k) (hl : k < l.length) : ltS s (rdTab l k).name := by
  have h1 := posT_ge hs (s := s) (by omega)
  have hne : (rdTab l (posT l s)).name ≠ s := fun h => by
    unfold hasT at hh
    rw [decide_eq_true (show posT l s < l.length by omega), decide_eq_true h] at hh
    cases hh
  have h2 := ltS_of_not h1 hne
  rcases Nat.lt_or_ge (posT l s) k with h3 | h3
  · exact ltS_trans h2 (sortT_lt hs h3 hl)
  · have : k = posT l s := by omega
    rw [this]; exact h2
theorem sortT_add {l : List Tab} (hs : sortT l) {x : Tab} (hh : hasT l x.name = false) : sortT (l.take (posT l x.name) ++ [x] ++ l.drop (posT l x.name)) := by
  have hple := posT_le l x.name
  unfold sortT at *
  rw [List.append_assoc, List.pairwise_append]
  refine ⟨hs.sublist (List.take_sublist _ _), ?_, ?_⟩
  · rw [List.singleton_append, List.pairwise_cons]
    refine ⟨fun b hb => ?_, hs.sublist (List.drop_sublist _ _)⟩
    obtain ⟨j, hj, rfl⟩ := List.mem_iff_getElem.1 hb
    rw [List.length_drop] at hj
    rw [List.getElem_drop, ← rdTab_get (by omega)]
    exact hasT_false hs hh (by omega) (by omega)
  · intro a ha b hb
    obtain ⟨i, hi, rfl⟩ := List.mem_iff_getElem.1 ha
    rw [List.length_take] at hi
    rw [List.getElem_take, ← rdTab_get (by omega)]
    rw [List.singleton_append, List.mem_cons] at hb
    rcases hb with rfl | hb
    · exact posT_lt hs (by omega)
    · obtain ⟨j, hj, rfl⟩ := List.mem_iff_getElem.1 hb
      rw [List.length_drop] at hj
      rw [List.getElem_drop, ← rdTab_get (by omega)]
      exact sortT_lt hs (by omega) (by omega)
theorem createE_zero {l : List Tab} {c : Chg} (h : createE l c = 0) : nameB c.table = true ∧ hasT l c.table = false ∧ mayB c.schema.cols c.schema.keys = true := by
  unfold createE at h
  cases h1 : nameB c.table <;> cases h2 : hasT l c.table <;> cases h3 : mayB c.schema.cols c.schema.keys <;> rw [h1, h2, h3] at h <;> simp_all
theorem createT_len (l : List Tab) (c : Chg) : (createT l c).length = l.length + 1 := by
  unfold createT
  have := posT_le l c.table
  simp only [List.length_append, List.length_take, List.length_drop, List.length_singleton]
  omega
theorem okTabs_add {l : List Tab} (h : okTabs l) {c : Chg} (he : createE l c = 0) (h6 : c.schema.cols.length ≤ 6) : okTabs (createT l c) := by
  obtain ⟨h1, h2, h3⟩ := createE_zero he
  refine ⟨sortT_add h.1 (x := ⟨c.table, c.schema⟩) h2, fun y hy => ?_⟩
  unfold createT at hy
  rw [List.append_assoc, List.mem_append, List.singleton_append, List.mem_cons] at hy
  rcases hy with h4 | rfl | h4
  · exact h.2 _ (List.mem_of_mem_take h4)
  · exact ⟨h1, h3, h6⟩
  · exact h.2 _ (List.mem_of_mem_drop h4)
def poolT : List ByteArray := [⟨#[116]⟩, ⟨#[117]⟩, ⟨#[118]⟩]
theorem poolT_cell {w : World} {b : Nat} (h : w.heap[b]? = some (.cells #[.string ⟨#[116]⟩, .string ⟨#[117]⟩, .string ⟨#[118]⟩] 9 (0, 0))) {k : Nat} (hk : k < 3) : w.cell? ⟨b, k, none⟩ = some (.string (poolT.getD k ⟨#[]⟩)) := by
  have h1 := blk_cell h k
  rw [h1]
  rcases k with _ | _ | _ | k
  · rfl
  · rfl
  · rfl
  · omega
def TabsTell (w : World) (e : Ending) (w' : World) : Prop := ∃ (A : Option Addr) (c : Nat) (l : List Tab), e = .returned (.slice A l.length c) ∧ l.length ≤ c ∧ l.length ≤ 3 ∧ okTabs l ∧ kTab.C w' A l.length l ∧ Below w.heap.size w w'
def numT (l : List Tab) : Prop := ∀ t ∈ l, i64Ok t.schema.keys ∧ ∀ x ∈ t.schema.cols, i64Ok x.kind
set_option maxRecDepth 100000 in
set_option maxHeartbeats 8000000 in
theorem good06_calls (A : Option Addr) (c : Nat) (l : List Tab) (hnum : numT l) (w : World) (hC : kTab.C w A l.length l) :
    Calls Tryz.prog 17 #[.slice A l.length c] w (TabsTell w) := by
  have hlen : l.length ≤ 9223372036854775807 := hC.2.1
  have HC := Aside0.mk hC
  have HNum := Aside0.mk hnum
  clear hC hnum
  go_enter Tryz.func17, Tryz.ntmps17
  go_upto_region 3 with fail
  have hb0 : Below w.heap.size w (w.alloc (.cells #[.string ⟨#[116]⟩, .string ⟨#[117]⟩, .string ⟨#[118]⟩] 9)) := below_alloc (Below.refl _ _) _
  have h0 : (w.alloc (.cells #[.string ⟨#[116]⟩, .string ⟨#[117]⟩, .string ⟨#[118]⟩] 9)).heap[w.heap.size]? = some (.cells #[.string ⟨#[116]⟩, .string ⟨#[117]⟩, .string ⟨#[118]⟩] 9 (0, 0)) := heap_alloc_new _ _
  generalize w.alloc (.cells #[.string ⟨#[116]⟩, .string ⟨#[117]⟩, .string ⟨#[118]⟩] 9) = W1 at *
  have H0 := Aside0.mk h0
  have HB0 := Aside0.mk hb0
  clear h0 hb0
  go_wp2
  go_loopw [3, 5] (fun v i wr => ∃ (k : Nat) (D : Option Addr) (d : Nat) (ts : List Tab), k ≤ l.length ∧ k ≤ 3 ∧ i = .int .i64 k ∧ v = .slice D ts.length d ∧ ts.length ≤ d ∧ ts.length ≤ k ∧ okTabs ts ∧ kTab.C wr D ts.length ts ∧ Below W1.heap.size W1 wr) (fun _ i _ => 3 - (intOf i).toNat)
  case atStart => exact ⟨0, none, 0, [], by omega, by omega, rfl, rfl, by simp, by simp, ⟨List.Pairwise.nil, fun t ht => absurd ht (by simp)⟩, Kd.C_nil _ _, Below.refl _ _⟩
  case round =>
    obtain ⟨k, D, d, ts, hk, hk3, rfl, rfl, htd, htk, hok, hCt, hbel⟩ := hrel
    have pk : ∀ {j : Nat}, j < 3 → wr.cell? ⟨w.heap.size, j, none⟩ = some (.string (poolT.getD j ⟨#[]⟩)) := fun hj => poolT_cell (blk_below H0.out hbel) hj
    have HOk := Aside0.mk hok
    have HCt := Aside0.mk hCt
    have HBel := Aside0.mk hbel
    have HWB := Aside0.mk (bmore HB0.out hbel)
    clear hok hCt hbel
    by_cases hlt : k < l.length ∧ k < 3
    case neg =>
      have HT := Aside0.mk (show TabsTell w (.returned (.slice D ts.length d)) wr from ⟨D, d, ts, rfl, htd, by omega, HOk.out, HCt.out, HWB.out⟩)
      clear pk
      rcases (show k = l.length ∨ (k < l.length ∧ k = 3) by omega) with h | ⟨h, h3⟩
      · subst h
        go_wp2
        go_ret
        exact HT.out
      · subst h3
        go_wp2
        go_ret
        exact HT.out
    obtain ⟨hl1, hl3⟩ := hlt
    replace pk := pk hl3
    have hl1' : ((k : Nat) : Int) < (l.length : Int) := by omega
    have hl3' : ((k : Nat) : Int) < 3 := by omega
    obtain ⟨ad, E, e0, rfl, d0, d1, d2, he0, hE0⟩ := at_Tab HC.out k hl1
    replace d0 := pw_cell_below HWB.out d0
    replace d1 := pw_cell_below HWB.out d1
    replace d2 := pw_cell_below HWB.out d2
    have hnt := HNum.out _ (List.getElem_mem hl1)
    rw [← rdTab_get hl1] at hnt
    have HGood := Aside0.mk (good04_calls E e0 (rdTab l k).schema.cols (rdTab l k).schema.keys hnt.1 hnt.2 wr (Kd.C_below hE0 HWB.out))
    have HN := Aside0.mk (name04_calls (rdTab l k).name)
    have HFol := Aside0.mk (fun (nm : ByteArray) (G : Option Addr) (g : Nat) (sc : Sch) (W : World) (hb : Below wr.heap.size wr W) (hg : sc.cols.length ≤ g) (hG : kCol.C W G sc.cols.length sc.cols) => create06_calls D d ts ⟨1, nm, sc, ⟨⟨#[]⟩, 0, false⟩⟩ rfl G g HOk.out.1 (by omega) htd W (Kd.C_below HCt.out hb) hg hG)
    clear hnt hE0 he0
    generalize (rdTab l k).schema.cols.length = cl at *
    generalize (rdTab l k).schema.keys = ck at *
    generalize (rdTab l k).name = nm at *
    generalize poolT.getD k ⟨#[]⟩ = pn at *
    by_cases hbn : nameB nm = true
    all_goals
      first
        | (have hbt : nameB nm = true := hbn
           rw [hbt] at HN
           clear hbn hbt
           generalize nm = n5 at *)
        | (rw [show nameB nm = false by simpa using hbn] at HN
           clear hbn
           generalize pn = n5 at *)
      go_upto_region 11 with (first
        | (go_at_call 23; (with_reducible refine (HN.out _).mono ?_); rintro e w1 ⟨rfl, hw1⟩; have hw2 := hw1.symm; clear hw1; subst hw2)
        | (go_at_call 39; (with_reducible refine (HGood.out).mono ?_); rintro e w3 ⟨G, g, sc, rfl, hm, h6, _, hO3, hb3⟩; obtain ⟨h7, h8⟩ := (Kd.N_reads' hO3).2; have HB3 := Aside0.mk hb3; have H6 := Aside0.mk h6; have HGC := Aside0.mk (And.intro h7 h8); clear hm h6 hO3 hb3 h7 h8)
        | (go_at_call 28; (with_reducible refine (HFol.out _ G g sc _ HB3.out HGC.out.1 HGC.out.2).mono ?_); rintro e w4 ⟨v4, rfl, hO4, hb4⟩; have HB4 := Aside0.mk (bmore HB3.out hb4); have HO4 := Aside0.mk hO4; clear hb4 hO4))
      have hadd := fun (h : createE ts ⟨1, n5, sc, ⟨⟨#[]⟩, 0, false⟩⟩ = 0) => okTabs_add HOk.out h H6.out
      have hlen4 := createT_len ts ⟨1, n5, sc, ⟨⟨#[]⟩, 0, false⟩⟩
      have HAdd := Aside0.mk hadd
      have hO4 := HO4.out
      generalize createT ts ⟨1, n5, sc, ⟨⟨#[]⟩, 0, false⟩⟩ = T4 at *
      generalize createE ts ⟨1, n5, sc, ⟨⟨#[]⟩, 0, false⟩⟩ = E4 at *
      clear hadd HO4
      by_cases he : E4 = 0
      · subst he
        rw [if_pos rfl] at hO4
        obtain ⟨D4, d4, rfl, hd4, hC4⟩ := hO4.slice
        have HC4 := Aside0.mk hC4
        clear hO4 hC4
        go_wp2
        go_roundw
        case rel => exact ⟨k + 1, D4, d4, T4, by omega, by omega, by go_num, rfl, hd4, by omega, HAdd.out rfl, HC4.out, bmore HBel.out HB4.out⟩
        case measure => simp [intOf]; omega
      · have hq : (E4 == 0) = false := by rw [beq_eq_false_iff_ne]; exact he
        clear he hO4
        go_wp2
        go_roundw
        case rel => exact ⟨k + 1, D, d, ts, by omega, by omega, by go_num, rfl, htd, by omega, HOk.out, Kd.C_below HCt.out HB4.out, bmore HBel.out HB4.out⟩
        case measure => simp [intOf]; omega
end Go.Proofs.YtmdofdaiepilbaaGreatDoor
