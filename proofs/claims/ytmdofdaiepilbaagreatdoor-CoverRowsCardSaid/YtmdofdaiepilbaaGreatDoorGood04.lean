/- The document's Good of a schema: a schema that may be. Conditions: the columns read so; the numbers are of their size. -/
import Derived.Test.YtmdofdaiepilbaaGreatDoorGName
import Derived.Test.YtmdofdaiepilbaaGreatDoorGPush
import Derived.Test.YtmdofdaiepilbaaGreatDoorGKeys
namespace Go.Proofs.YtmdofdaiepilbaaGreatDoor
open Go.RowKit Go.Proofs.YtmdofdaiepilbaaGreatDoorW.PrintWords
set_option linter.unusedVariables false
set_option linter.unusedSimpArgs false
def poolC : List ByteArray := [⟨#[105, 100]⟩, ⟨#[110, 97, 109, 101]⟩, ⟨#[110]⟩, ⟨#[102, 108, 97, 103]⟩, ⟨#[114, 97, 119]⟩, ⟨#[120]⟩]
theorem poolC_name : ∀ k : Nat, k < 6 → nameB (poolC.getD k ⟨#[]⟩) = true := by decide
/-- columns of names and kinds that may be, each name once -/
structure GC (cols : List Col) : Prop where
  name : ∀ x ∈ cols, nameB x.name = true
  kind : ∀ x ∈ cols, 1 ≤ x.kind ∧ x.kind ≤ 4
  once : ∀ i, i < cols.length → findCol cols (rdCol cols i).name = (i : Int)
/-- the memory of Good -/
structure S4 (w wr : World) (A : Option Addr) (n c : Nat) (ks : Int) (D : Option Addr) (d : Nat) (kk : Int) (cols : List Col) : Prop where
  b0 : wr.heap[w.heap.size]? = some (.cells #[.slice A n c, .int .i64 ks] 43 (0, 0))
  b1 : wr.heap[w.heap.size + 1]? = some (.cells #[.slice none 0 0, .int .i64 0] 43 (0, 0))
  b2 : wr.heap[w.heap.size + 1 + 1]? = some (.cells #[.slice D cols.length d, .int .i64 kk] 43 (0, 0))
  b3 : wr.heap[w.heap.size + 1 + 1 + 1]? = some (.cells #[.string ⟨#[105, 100]⟩, .string ⟨#[110, 97, 109, 101]⟩, .string ⟨#[110]⟩, .string ⟨#[102, 108, 97, 103]⟩, .string ⟨#[114, 97, 119]⟩, .string ⟨#[120]⟩] 9 (0, 0))
  own : Own kCol 51 wr (w.heap.size + 4) (.slice D cols.length d) cols
  bel : Below w.heap.size w wr
  lt : w.heap.size + 4 ≤ wr.heap.size
theorem S4.step {w wr w1 : World} {A : Option Addr} {n c : Nat} {ks : Int} {D : Option Addr} {d : Nat} {kk : Int} {cols : List Col} (h : S4 w wr A n c ks D d kk cols) (hb : Below wr.heap.size wr w1) : S4 w w1 A n c ks D d kk cols :=
  ⟨blk_below h.b0 hb, blk_below h.b1 hb, blk_below h.b2 hb, blk_below h.b3 hb, h.own.below hb, bmore h.bel hb, Nat.le_trans h.lt hb.size⟩
theorem findCol_lt {l : List Col} {s : ByteArray} : findCol l s < 0 ↔ ∀ x ∈ l, x.name ≠ s := by
  unfold findCol
  cases h : l.findIdx? (fun c => decide (c.name = s)) with
  | none =>
    simp only [List.findIdx?_eq_none_iff, decide_eq_false_iff_not] at h
    exact ⟨fun _ => h, fun _ => by decide⟩
  | some i =>
    simp only [List.findIdx?_eq_some_iff_getElem] at h
    obtain ⟨hi, h1, _⟩ := h
    constructor
    · intro h2; exfalso; simp only at h2; omega
    · intro h2; exact absurd (of_decide_eq_true h1) (h2 _ (List.getElem_mem hi))
theorem findCol_app {l : List Col} {x : Col} (hx : ∀ y ∈ l, y.name ≠ x.name) {i : Nat} (hi : i < l.length) (h : findCol l (rdCol l i).name = (i : Int)) : findCol (l ++ [x]) (rdCol l i).name = (i : Int) := by
  unfold findCol at *
  rw [List.findIdx?_append]
  cases h2 : l.findIdx? (fun c => decide (c.name = (rdCol l i).name)) with
  | none => rw [h2] at h; simp only at h; omega
  | some j => rw [h2] at h; simpa using h
theorem GC.more {l : List Col} (h : GC l) {x : Col} (hn : nameB x.name = true) (hk : 1 ≤ x.kind ∧ x.kind ≤ 4) (hf : findCol l x.name < 0) : GC (l ++ [x]) := by
  have hx : ∀ y ∈ l, y.name ≠ x.name := findCol_lt.1 hf
  refine ⟨fun y hy => ?_, fun y hy => ?_, fun i hi => ?_⟩
  · rcases List.mem_append.1 hy with h1 | h1
    · exact h.name y h1
    · rw [List.mem_singleton] at h1; subst h1; exact hn
  · rcases List.mem_append.1 hy with h1 | h1
    · exact h.kind y h1
    · rw [List.mem_singleton] at h1; subst h1; exact hk
  · rw [List.length_append, List.length_singleton] at hi
    rcases Nat.lt_or_ge i l.length with h1 | h1
    · have e : rdCol (l ++ [x]) i = rdCol l i := by unfold rdCol; rw [List.getD_eq_getElem?_getD, List.getD_eq_getElem?_getD, List.getElem?_append_left h1]
      rw [e]; exact findCol_app hx h1 (h.once i h1)
    · obtain rfl : i = l.length := by omega
      have e : rdCol (l ++ [x]) l.length = x := by unfold rdCol; rw [List.getD_eq_getElem?_getD, List.getElem?_append_right (Nat.le_refl _), Nat.sub_self]; rfl
      rw [e]
      unfold findCol
      have hno : l.findIdx? (fun c => decide (c.name = x.name)) = none := by
        rw [List.findIdx?_eq_none_iff]; exact fun y hy => decide_eq_false (hx y hy)
      rw [List.findIdx?_append, hno]
      simp
theorem mod4 (k : Int) (h1 : -9223372036854775808 ≤ k) (h2 : k ≤ 9223372036854775807) (h : k < 0) : 0 ≤ -((k + 1).tmod 4) ∧ -((k + 1).tmod 4) ≤ 3 := by
  rw [← Int.neg_tmod, Int.tmod_eq_emod_of_nonneg (by omega)]
  omega
theorem alloc4 (w : World) (o1 o2 o3 o4 : Obj) : ((((w.alloc o1).alloc o2).alloc o3).alloc o4).heap[w.heap.size]? = some o1 ∧ ((((w.alloc o1).alloc o2).alloc o3).alloc o4).heap[w.heap.size + 1]? = some o2 ∧ ((((w.alloc o1).alloc o2).alloc o3).alloc o4).heap[w.heap.size + 1 + 1]? = some o3 ∧ ((((w.alloc o1).alloc o2).alloc o3).alloc o4).heap[w.heap.size + 1 + 1 + 1]? = some o4 ∧ Below w.heap.size w ((((w.alloc o1).alloc o2).alloc o3).alloc o4) ∧ ((((w.alloc o1).alloc o2).alloc o3).alloc o4).heap.size = w.heap.size + 4 := by
  have s2 := World.size_alloc w o1
  have s3 := World.size_alloc (w.alloc o1) o2
  have s4 := World.size_alloc ((w.alloc o1).alloc o2) o3
  have s5 := World.size_alloc (((w.alloc o1).alloc o2).alloc o3) o4
  have h1 := heap_alloc_new w o1
  have h2 := heap_alloc_new (w.alloc o1) o2
  have h3 := heap_alloc_new ((w.alloc o1).alloc o2) o3
  have h4 := heap_alloc_new (((w.alloc o1).alloc o2).alloc o3) o4
  have b2 := below_alloc (Below.refl (w.alloc o1).heap.size (w.alloc o1)) o2
  have b3 := below_alloc (Below.refl ((w.alloc o1).alloc o2).heap.size ((w.alloc o1).alloc o2)) o3
  have b4 := below_alloc (Below.refl (((w.alloc o1).alloc o2).alloc o3).heap.size (((w.alloc o1).alloc o2).alloc o3)) o4
  rw [s2] at h2
  rw [s3, s2] at h3
  rw [s4, s3, s2] at h4
  exact ⟨(b4.block _ (by omega)).trans ((b3.block _ (by omega)).trans ((b2.block _ (by omega)).trans h1)), (b4.block _ (by omega)).trans ((b3.block _ (by omega)).trans h2), (b4.block _ (by omega)).trans h3, h4, below_alloc (below_alloc (below_alloc (below_alloc (Below.refl _ _) _) _) _) _, by omega⟩
theorem S4.out {w wr w1 : World} {A : Option Addr} {n c : Nat} {ks : Int} {D D' : Option Addr} {d d' : Nat} {kk : Int} {cols cols' : List Col} (h : S4 w wr A n c ks D d kk cols) (hb : Below (w.heap.size + 4) wr w1) (hO : Own kCol 51 w1 (w.heap.size + 4) (.slice D' cols'.length d') cols') (u : Int) (hu : u = kk) : S4 w (w1.setCell ⟨w.heap.size + 1 + 1, 0, none⟩ (.slice D' cols'.length d')) A n c ks D' d' u cols' := by
  subst hu
  have hne : ∀ k, k < w.heap.size + 4 → w1.heap[k]? = wr.heap[k]? := fun k hk => hb.block k hk
  have hlt := h.lt
  have hO2 : Own kCol 51 (w1.setCell ⟨w.heap.size + 1 + 1, 0, none⟩ (.slice D' cols'.length d')) (w.heap.size + 4) (.slice D' cols'.length d') cols' := Own.flat flat_Col hO (fun k hk => heap_setCell_other _ _ _ _ (by have := Kd.N_base hO k hk; simp only; omega))
  refine ⟨blk_far ((hne _ (by omega)).trans h.b0) (by simp only; omega) _, blk_far ((hne _ (by omega)).trans h.b1) (by simp only; omega) _, ?_, blk_far ((hne _ (by omega)).trans h.b3) (by simp only; omega) _, hO2, ?_, ?_⟩
  · have := heap_setCell_same w1 (w.heap.size + 1 + 1) 0 _ _ (.slice D' cols'.length d') ((hne _ (by omega)).trans h.b2)
    exact this
  · exact (h.bel.trans (hb.mono (by omega))).setCell (p := ⟨w.heap.size + 1 + 1, 0, none⟩) (by simp only; omega) _
  · have := hb.size; simp; omega
theorem S4.keys {w wr : World} {A : Option Addr} {n c : Nat} {ks : Int} {D : Option Addr} {d : Nat} {kk : Int} {cols : List Col} (h : S4 w wr A n c ks D d kk cols) (kq : Int) : S4 w (wr.setCell ⟨w.heap.size + 1 + 1, 1, none⟩ (.int .i64 kq)) A n c ks D d kq cols := by
  have hlt := h.lt
  refine ⟨blk_far h.b0 (by simp only; omega) _, blk_far h.b1 (by simp only; omega) _, heap_setCell_same wr (w.heap.size + 1 + 1) 1 _ _ (.int .i64 kq) h.b2, blk_far h.b3 (by simp only; omega) _, Own.flat flat_Col h.own (fun k hk => heap_setCell_other _ _ _ _ (by have := Kd.N_base h.own k hk; simp only; omega)), h.bel.setCell (p := ⟨w.heap.size + 1 + 1, 1, none⟩) (by simp only; omega) _, by simp; omega⟩
theorem S4.clr {w wr : World} {A : Option Addr} {n c : Nat} {ks : Int} {g d : Nat} {kk : Int} {cols : List Col} (h : S4 w wr A n c ks (some ⟨g, 0, none⟩) d kk cols) {j : Nat} (hj : j < cols.length) : S4 w (wr.setCell ⟨g, j * 3 + 2, none⟩ (.bool false)) A n c ks (some ⟨g, 0, none⟩) d kk (cols.set j { rdCol cols j with none := false }) := by
  have hg := Kd.N_base h.own g (by simp [Value.ownBlock])
  obtain ⟨_, _, _, _, _, h2⟩ := h.own.col j hj
  have e : (cols.set j { rdCol cols j with none := false }).length = cols.length := by simp
  refine ⟨blk_far h.b0 (by simp only; omega) _, blk_far h.b1 (by simp only; omega) _, ?_, blk_far h.b3 (by simp only; omega) _, ?_, h.bel.setCell (p := ⟨g, j * 3 + 2, none⟩) (by simp only; omega) _, by have := h.lt; simp; omega⟩
  · rw [e]; exact blk_far h.b2 (by simp only; omega) _
  · rw [e]; exact h2 false
theorem findCol_names (l : List Col) (s : ByteArray) : findCol l s = match (l.map Col.name).findIdx? (fun n => decide (n = s)) with | some i => (i : Int) | none => -1 := by
  unfold findCol
  rw [List.findIdx?_map]
  rfl
theorem set_names {l : List Col} {j : Nat} (hj : j < l.length) : (l.set j { rdCol l j with none := false }).map Col.name = l.map Col.name := by
  rw [List.map_set]
  have : (rdCol l j).name = (l.map Col.name)[j]'(by simpa using hj) := by rw [List.getElem_map, rdCol_get hj]
  simp only
  rw [this, List.set_getElem_self]
theorem rdCol_set {l : List Col} {i j : Nat} {y : Col} (hi : i < l.length) : rdCol (l.set j y) i = if j = i then y else rdCol l i := by
  unfold rdCol
  rw [List.getD_eq_getElem?_getD, List.getD_eq_getElem?_getD, List.getElem?_set]
  split
  · rename_i h; subst h; simp [hi]
  · rfl
theorem GC.set {l : List Col} (h : GC l) {j : Nat} (hj : j < l.length) : GC (l.set j { rdCol l j with none := false }) := by
  have hm : rdCol l j ∈ l := by rw [rdCol_get hj]; exact List.getElem_mem hj
  refine ⟨fun x hx => ?_, fun x hx => ?_, fun i hi => ?_⟩
  · rcases List.mem_or_eq_of_mem_set hx with h1 | h1
    · exact h.name x h1
    · subst h1; show nameB (rdCol l j).name = true; exact h.name _ hm
  · rcases List.mem_or_eq_of_mem_set hx with h1 | h1
    · exact h.kind x h1
    · subst h1; show 1 ≤ (rdCol l j).kind ∧ (rdCol l j).kind ≤ 4; exact h.kind _ hm
  · rw [List.length_set] at hi
    have e : (rdCol (l.set j { rdCol l j with none := false }) i).name = (rdCol l i).name := by
      rw [rdCol_set hi]
      split
      · rename_i h2; subst h2; rfl
      · rfl
    rw [e, findCol_names, set_names hj, ← findCol_names]
    exact h.once i hi
theorem GC.may {l : List Col} (h : GC l) {kq : Int} (h1 : 1 ≤ kq) (h2 : kq ≤ 3) (h3 : kq ≤ (l.length : Int)) (h4 : l.length ≤ 6) (hn : ∀ i : Nat, (i : Int) < kq → i < l.length → (rdCol l i).none = false) : mayB l kq = true := by
  refine mayB_good (headB_yes (by omega)) (fun j hj => ?_)
  have hm : rdCol l j ∈ l := by rw [rdCol_get hj]; exact List.getElem_mem hj
  unfold colB kindB
  rw [h.name _ hm, decide_eq_true (h.kind _ hm).1, decide_eq_true (h.kind _ hm).2, decide_eq_true (h.once j hj)]
  by_cases hk : (j : Int) < kq
  · rw [hn j hk hj]; simp
  · rw [decide_eq_false hk]; simp
theorem keyq (k1 : Int) (n : Nat) (hk : 0 ≤ k1 ∧ k1 ≤ 9223372036854775807) (hn : 1 ≤ n ∧ n ≤ 6) : 1 ≤ wrap64 (1 + k1 % min (n : Int) 3) ∧ wrap64 (1 + k1 % min (n : Int) 3) ≤ 3 ∧ wrap64 (1 + k1 % min (n : Int) 3) ≤ (n : Int) := by
  have h1 : 1 ≤ min (n : Int) 3 := by omega
  have h2 : min (n : Int) 3 ≤ 3 := by omega
  have h3 : min (n : Int) 3 ≤ (n : Int) := by omega
  generalize min (n : Int) 3 = m at *
  have h4 := Int.emod_nonneg k1 (show m ≠ 0 by omega)
  have h5 := Int.emod_lt_of_pos k1 (show 0 < m by omega)
  generalize k1 % m = r at *
  unfold wrap64
  omega
theorem wrap4 (k : Int) (h : k < 0) (hk : -9223372036854775808 ≤ k ∧ k ≤ 9223372036854775807) : 1 ≤ wrap64 (1 + -((k + 1).tmod 4)) ∧ wrap64 (1 + -((k + 1).tmod 4)) ≤ 4 := by
  have := mod4 k hk.1 hk.2 h
  unfold wrap64
  omega
theorem S4.pool {w wr : World} {A : Option Addr} {n c : Nat} {ks : Int} {D : Option Addr} {d : Nat} {kk : Int} {cols : List Col} (h : S4 w wr A n c ks D d kk cols) {k : Nat} (hk : k < 6) : wr.cell? ⟨w.heap.size + 1 + 1 + 1, k, none⟩ = some (.string (poolC.getD k ⟨#[]⟩)) := by
  have h1 := blk_cell h.b3 k
  rw [h1]
  rcases k with _ | _ | _ | _ | _ | _ | k
  · rfl
  · rfl
  · rfl
  · rfl
  · rfl
  · rfl
  · omega
def SchTell (w : World) (e : Ending) (w' : World) : Prop := ∃ (A : Option Addr) (c : Nat) (sc : Sch), e = .returned (.agg #[.slice A sc.cols.length c, .int .i64 sc.keys]) ∧ mayB sc.cols sc.keys = true ∧ sc.cols.length ≤ 6 ∧ sc.keys ≤ 3 ∧ Own kCol 51 w' w.heap.size (.slice A sc.cols.length c) sc.cols ∧ Below w.heap.size w w'
theorem S4.done {w wr : World} {A : Option Addr} {n c : Nat} {ks : Int} {D : Option Addr} {d : Nat} {kk : Int} {cols : List Col} (h : S4 w wr A n c ks D d kk cols) (hm : mayB cols kk = true) (h6 : cols.length ≤ 6) (h3 : kk ≤ 3) (u0 u1 : Value) : SchTell w (.returned (.agg #[.slice D cols.length d, .int .i64 kk])) ((wr.setCell ⟨w.heap.size + 1, 0, none⟩ u0).setCell ⟨w.heap.size + 1, 1, none⟩ u1) := by
  refine ⟨D, d, ⟨cols, kk⟩, rfl, hm, h6, h3, Own.lower (Own.flat flat_Col h.own (fun k hk => ?_)) (Nat.le_add_right _ 4), (h.bel.setCell (p := ⟨w.heap.size + 1, 0, none⟩) (by simp only; omega) _).setCell (p := ⟨w.heap.size + 1, 1, none⟩) (by simp only; omega) _⟩
  have := Kd.N_base h.own k hk
  exact (heap_setCell_other _ _ _ _ (by simp only; omega)).trans (heap_setCell_other _ _ _ _ (by simp only; omega))
set_option maxRecDepth 100000 in
set_option maxHeartbeats 8000000 in
theorem good04_calls (A : Option Addr) (c : Nat) (l : List Col) (ks : Int) (hks : i64Ok ks) (hkd : ∀ x ∈ l, i64Ok x.kind) (w : World) (hC : kCol.C w A l.length l) :
    Calls Tryz.prog 39 #[.agg #[.slice A l.length c, .int .i64 ks]] w (SchTell w) := by
  have hlen : l.length ≤ 9223372036854775807 := hC.2.1
  have HC := Aside0.mk hC
  have HKd := Aside0.mk hkd
  clear hC hkd
  unfold i64Ok at hks
  go_enter Tryz.func39, Tryz.ntmps39
  go_upto_region 3 with fail
  have h4 := alloc4 w (.cells #[.slice A l.length c, .int .i64 ks] 43) (.cells #[.slice none 0 0, .int .i64 0] 43) (.cells #[.slice none 0 0, .int .i64 0] 43) (.cells #[.string ⟨#[105, 100]⟩, .string ⟨#[110, 97, 109, 101]⟩, .string ⟨#[110]⟩, .string ⟨#[102, 108, 97, 103]⟩, .string ⟨#[114, 97, 119]⟩, .string ⟨#[120]⟩] 9)
  generalize (((w.alloc (.cells #[.slice A l.length c, .int .i64 ks] 43)).alloc (.cells #[.slice none 0 0, .int .i64 0] 43)).alloc (.cells #[.slice none 0 0, .int .i64 0] 43)).alloc (.cells #[.string ⟨#[105, 100]⟩, .string ⟨#[110, 97, 109, 101]⟩, .string ⟨#[110]⟩, .string ⟨#[102, 108, 97, 103]⟩, .string ⟨#[114, 97, 119]⟩, .string ⟨#[120]⟩] 9) = W0 at *
  have HS0 := Aside0.mk (S4.mk (w := w) (wr := W0) (A := A) (n := l.length) (c := c) (ks := ks) (D := none) (d := 0) (kk := 0) (cols := []) h4.1 h4.2.1 h4.2.2.1 h4.2.2.2.1 (Own.nil _ _ _ _) h4.2.2.2.2.1 (by omega))
  clear h4
  go_wp2
  go_loopw [5] (fun i wr => ∃ (k : Nat) (D : Option Addr) (d : Nat) (cols : List Col), k ≤ l.length ∧ k ≤ 6 ∧ i = .int .i64 k ∧ cols.length ≤ k ∧ GC cols ∧ S4 w wr A l.length c ks D d 0 cols) (fun i _ => 6 - (intOf i).toNat)
  case atStart => exact ⟨0, none, 0, [], by omega, by omega, rfl, by simp, ⟨fun x hx => absurd hx (by simp), fun x hx => absurd hx (by simp), fun i hi => absurd hi (by simp)⟩, HS0.out⟩
  case round =>
    clear HS0
    obtain ⟨k, D, d, cols, hk1, hk6, rfl, hck, hgc, hS⟩ := hrel
    have a0 : wr.cell? ⟨w.heap.size, 0, none⟩ = some (.slice A l.length c) := cell_of_row _ _ 0 _ _ _ hS.b0
    have a1 : wr.cell? ⟨w.heap.size, 1, none⟩ = some (.int .i64 ks) := cell_of_row _ _ 1 _ _ _ hS.b0
    have HGC := Aside0.mk hgc
    have HS := Aside0.mk hS
    clear hgc hS
    by_cases hlt : k < l.length ∧ k < 6
    case neg =>
      have p0 : wr.cell? ⟨w.heap.size + 1 + 1, 0, none⟩ = some (.slice D cols.length d) := cell_of_row _ _ 0 _ _ _ HS.out.b2
      have hcl6 : cols.length ≤ 6 := by omega
      have hex : k = l.length ∨ (k < l.length ∧ k = 6) := by omega
      clear hlt
      rcases hex with hex | ⟨hex, hex6⟩
      all_goals
        by_cases hz : cols = []
      all_goals
        first
          | (subst hz
             have hgid : GC [(⟨⟨#[105, 100]⟩, 2, false⟩ : Col)] := ⟨fun x hx => by rw [List.mem_singleton] at hx; subst hx; decide, fun x hx => by rw [List.mem_singleton] at hx; subst hx; decide, fun i hi => by obtain rfl : i = 0 := (by simpa using hi); rfl⟩
             have HGid := Aside0.mk hgid
             clear hgid
             go_upto_region 18 with (at_builtin; refine pushCol (w0 := wr) (W := wr) (w.heap.size + 4) rfl (.tmp 72) (.tmp 74) rfl (.slice D 0 d) [] ⟨⟨#[105, 100]⟩, 2, false⟩ [.string ⟨#[105, 100]⟩, .int .i64 2, .bool false] (fun _ => False) rfl rfl (fk_Col _ _ ⟨⟨#[105, 100]⟩, 2, false⟩) (fun k h => h.elim) HS.out.own (Below.refl _ _) HS.out.lt (by simp) ?_; intro v7 w7 hN7 hb7; rw [List.nil_append] at hN7; obtain ⟨D7, d7, rfl, _, _⟩ := hN7.slice; have hk7 := (hb7.block (w.heap.size + 1 + 1) (by omega)).trans HS.out.b2; have t0 := cell_of_row w7 _ 0 _ _ _ hk7; have t1 := frozen_of_row w7 (w.heap.size + 1 + 1) 0 _ _ hk7; have HS7 := Aside0.mk (HS.out.out hb7 hN7 0 rfl); clear hk7 hN7 hb7))
          | (have hzp : 0 < cols.length := List.length_pos_iff.2 hz
             have hz' : (((cols.length : Nat) : Int) == 0) = false := (by rw [beq_eq_false_iff_ne]; omega)
             have HZ := Aside0.mk hz
             clear hz
             go_upto_region 18 with fail)
      all_goals
        clear p0 hex
        first
          | (have hs6 : S4 w (w7.setCell ⟨w.heap.size + 1 + 1, 0, none⟩ (.slice D7 1 d7)) A l.length c ks D7 d7 0 [(⟨⟨#[105, 100]⟩, 2, false⟩ : Col)] := HS7.out
             have hg6 := HGid.out
             have hl6 : 1 ≤ [(⟨⟨#[105, 100]⟩, 2, false⟩ : Col)].length ∧ [(⟨⟨#[105, 100]⟩, 2, false⟩ : Col)].length ≤ 6 := ⟨by simp, by simp⟩
             clear t0 t1 HS7 HGid HS HGC
             generalize w7.setCell ⟨w.heap.size + 1 + 1, 0, none⟩ (.slice D7 1 d7) = W6 at *
             generalize [(⟨⟨#[105, 100]⟩, 2, false⟩ : Col)] = c6 at *)
          | (have hs6 := HS.out
             have hg6 := HGC.out
             have hl6 : 1 ≤ cols.length ∧ cols.length ≤ 6 := ⟨hzp, hcl6⟩
             clear hz' HZ HS HGC hzp hcl6 hck
             generalize wr = W6 at *
             generalize cols = c6 at *
             generalize D = D7 at *
             generalize d = d7 at *)
        have a1 : W6.cell? ⟨w.heap.size, 1, none⟩ = some (.int .i64 ks) := cell_of_row _ _ 1 _ _ _ hs6.b0
        have p0 : W6.cell? ⟨w.heap.size + 1 + 1, 0, none⟩ = some (.slice D7 c6.length d7) := cell_of_row _ _ 0 _ _ _ hs6.b2
        have p1 : W6.cell? ⟨w.heap.size + 1 + 1, 1, none⟩ = some (.int .i64 0) := cell_of_row _ _ 1 _ _ _ hs6.b2
        have z1 := frozen_of_row W6 (w.heap.size + 1 + 1) 1 _ _ hs6.b2
        obtain ⟨kz, hs6⟩ : ∃ kz, S4 w W6 A l.length c kz D7 d7 0 c6 := ⟨_, hs6⟩
        have HS6 := Aside0.mk hs6
        have HG6 := Aside0.mk hg6
        clear hs6 hg6
        by_cases hneg : ks < 0
      all_goals
        go_upto_region 21 with fail
        first
          | (have hk1 : 0 ≤ -(ks + 1) ∧ -(ks + 1) ≤ 9223372036854775807 := (by omega); clear a1; generalize -(ks + 1) = k1 at *)
          | (have hk1 : 0 ≤ ks ∧ ks ≤ 9223372036854775807 := (by omega); clear a1; generalize ks = k1 at *)
        have hmin := min_calls (c6.length : Int) 3
        go_upto_region 22 with fail
        have hkq := keyq k1 c6.length hk1 hl6
        generalize wrap64 (1 + k1 % min (c6.length : Int) 3) = kq at *
        have hs7 := HS6.out.keys kq
        generalize W6.setCell ⟨w.heap.size + 1 + 1, 1, none⟩ (.int .i64 kq) = W7 at *
        obtain ⟨g, d8, hge, _, _⟩ := hs7.own.form (by omega)
        simp only [Value.slice.injEq] at hge
        obtain ⟨rfl, _, rfl⟩ := hge
        have HS7 := Aside0.mk hs7
        clear hs7 HS6 hmin p0 p1 z1 hk1
        go_wp2
        go_loopw [10] (fun i wq => ∃ (j : Nat) (cs : List Col), (j : Int) ≤ kq ∧ i = .int .i64 j ∧ cs.length = c6.length ∧ GC cs ∧ (∀ i, i < j → i < cs.length → (rdCol cs i).none = false) ∧ S4 w wq A l.length c kz (some ⟨g, 0, none⟩) d7 kq cs) (fun i _ => kq.toNat - (intOf i).toNat)
        case atStart => exact ⟨0, c6, by omega, rfl, rfl, HG6.out, fun i hi => absurd hi (by omega), HS7.out⟩
        case round =>
          clear HS7 HG6
          obtain ⟨j, cs, hj, rfl, hcs, hgs, hno, hS⟩ := hrel
          have p0 : wr.cell? ⟨w.heap.size + 1 + 1, 0, none⟩ = some (.slice (some ⟨g, 0, none⟩) cs.length d7) := cell_of_row _ _ 0 _ _ _ hS.b2
          have p1 : wr.cell? ⟨w.heap.size + 1 + 1, 1, none⟩ = some (.int .i64 kq) := cell_of_row _ _ 1 _ _ _ hS.b2
          have HS := Aside0.mk hS
          have HGs := Aside0.mk hgs
          have HNo := Aside0.mk hno
          clear hS hgs hno
          by_cases hjq : (j : Int) < kq
          · have hjc : j < cs.length := by omega
            have hjc' : ((j : Nat) : Int) < (cs.length : Int) := by omega
            obtain ⟨y1, y2, z1, z2, _, _⟩ := HS.out.own.col j hjc
            go_wp2
            go_roundw
            case rel => exact ⟨j + 1, _, by omega, by go_num, by rw [List.length_set]; exact hcs, HGs.out.set hjc, fun i h1 h2 => by
              rw [List.length_set] at h2
              rw [rdCol_set h2]
              split
              · rfl
              · exact HNo.out i (by omega) h2, HS.out.clr hjc⟩
            case measure => simp [intOf]; omega
          · have hje : (j : Int) = kq := by omega
            have hmay := HGs.out.may hkq.1 hkq.2.1 (by omega) (by omega) (fun i h1 h2 => HNo.out i (by omega) h2)
            have HEnd := Aside0.mk (fun u0 u1 => HS.out.done hmay (by omega) hkq.2.1 u0 u1)
            have x0 : wr.cell? ⟨w.heap.size + 1, 0, none⟩ = some (.slice none 0 0) := cell_of_row _ _ 0 _ _ _ HS.out.b1
            have x1 : wr.cell? ⟨w.heap.size + 1, 1, none⟩ = some (.int .i64 0) := cell_of_row _ _ 1 _ _ _ HS.out.b1
            have v0 := frozen_of_row wr (w.heap.size + 1) 0 _ _ HS.out.b1
            have v1 := frozen_of_row wr (w.heap.size + 1) 1 _ _ HS.out.b1
            clear hmay
            go_wp2
            exact bodyPost_ret (v := .agg #[.slice (some ⟨g, 0, none⟩) cs.length d7, .int .i64 kq]) (by simp [results, Tryz.results39, go_sem, *]) rfl (HEnd.out _ _)
    obtain ⟨hl1, hl6⟩ := hlt
    have hl1' : ((k : Nat) : Int) < (l.length : Int) := by omega
    have hl6' : ((k : Nat) : Int) < 6 := by omega
    obtain ⟨ad, rfl, d0, d1, d2⟩ := at_Col HC.out k hl1
    replace d0 := pw_cell_below HS.out.bel d0
    replace d1 := pw_cell_below HS.out.bel d1
    replace d2 := pw_cell_below HS.out.bel d2
    have hkx := HKd.out _ (List.getElem_mem hl1)
    rw [← rdCol_get hl1] at hkx
    generalize rdCol l k = x at *
    obtain ⟨nm, kd, no⟩ := x
    simp only at d0 d1 d2 hkx
    unfold i64Ok at hkx
    go_upto_region 7 with fail
    have hb2 : Below wr.heap.size wr (wr.alloc (.cells #[.string nm, .int .i64 kd, .bool no] 51)) := below_alloc (Below.refl _ _) _
    have h2 : (wr.alloc (.cells #[.string nm, .int .i64 kd, .bool no] 51)).heap[wr.heap.size]? = some (.cells #[.string nm, .int .i64 kd, .bool no] 51 (0, 0)) := heap_alloc_new _ _
    generalize wr.alloc (.cells #[.string nm, .int .i64 kd, .bool no] 51) = W2 at *
    have c0 : W2.cell? ⟨wr.heap.size, 0, none⟩ = some (.string nm) := cell_of_row _ _ 0 _ _ _ h2
    have c1 : W2.cell? ⟨wr.heap.size, 1, none⟩ = some (.int .i64 kd) := cell_of_row _ _ 1 _ _ _ h2
    have z1 := frozen_of_row W2 wr.heap.size 1 _ _ h2
    have HB2 := Aside0.mk hb2
    have H2 := Aside0.mk h2
    clear a0 a1 d0 d1 d2 hb2 h2
    by_cases hneg : kd < 0
    all_goals
      go_upto_region 11 with fail
      first
        | (have hr : 1 ≤ wrap64 (1 + -((kd + 1).tmod 4)) ∧ wrap64 (1 + -((kd + 1).tmod 4)) ≤ 4 := (wrap4 kd hneg hkx); generalize wrap64 (1 + -((kd + 1).tmod 4)) = r at *)
        | (have hr : 1 ≤ 1 + kd % 4 ∧ 1 + kd % 4 ≤ 4 := (by omega); generalize 1 + kd % 4 = r at *)
      have h3 : (W2.setCell ⟨wr.heap.size, 1, none⟩ (.int .i64 r)).heap[wr.heap.size]? = some (.cells #[.string nm, .int .i64 r, .bool no] 51 (0, 0)) := heap_setCell_same _ wr.heap.size 1 _ _ (.int .i64 r) H2.out
      have hb3 : Below wr.heap.size wr (W2.setCell ⟨wr.heap.size, 1, none⟩ (.int .i64 r)) := HB2.out.setCell (p := ⟨wr.heap.size, 1, none⟩) (Nat.le_refl _) _
      generalize W2.setCell ⟨wr.heap.size, 1, none⟩ (.int .i64 r) = W3 at *
      have hs3 := HS.out.step hb3
      have e0 : W3.cell? ⟨wr.heap.size, 0, none⟩ = some (.string nm) := cell_of_row _ _ 0 _ _ _ h3
      have z0 := frozen_of_row W3 wr.heap.size 0 _ _ h3
      have p0 : W3.cell? ⟨w.heap.size + 1 + 1, 0, none⟩ = some (.slice D cols.length d) := cell_of_row _ _ 0 _ _ _ hs3.b2
      have p1 : W3.cell? ⟨w.heap.size + 1 + 1, 1, none⟩ = some (.int .i64 0) := cell_of_row _ _ 1 _ _ _ hs3.b2
      have pk := hs3.pool hl6
      have hpk := poolC_name k hl6
      have HS3 := Aside0.mk hs3
      have HB3 := Aside0.mk hb3
      have H3 := Aside0.mk h3
      have HN := Aside0.mk (name04_calls nm)
      have HFd := Aside0.mk (fun (s : ByteArray) (W : World) (hb : Below W3.heap.size W3 W) => find04_calls D d cols 0 s W (Kd.N_reads' (HS3.out.step hb).own).2.2)
      have HPP := Aside0.mk (fun (W : World) (hb : Below W3.heap.size W3 W) => And.intro (pw_cell_below hb e0) (And.intro (pw_cell_below hb pk) (frozen_of_row W wr.heap.size 0 _ _ (blk_below H3.out hb))))
      clear c0 c1 z1 hs3 h3 hb3 H2 HB2 hneg
      generalize poolC.getD k ⟨#[]⟩ = pn at *
      have hcase : nameB nm = false ∨ (nameB nm = true ∧ findCol cols nm < 0) ∨ (nameB nm = true ∧ 0 ≤ findCol cols nm) := by
        cases nameB nm
        · exact .inl rfl
        · rcases Int.lt_or_le (findCol cols nm) 0 with h | h
          · exact .inr (.inl ⟨rfl, h⟩)
          · exact .inr (.inr ⟨rfl, h⟩)
      rcases hcase with hbn | ⟨hbn, hf⟩ | ⟨hbn, hf⟩
    all_goals
      rw [hbn] at HN
    all_goals
      go_upto_region 14 with (first
        | (go_at_call 23; (with_reducible refine (HN.out _).mono ?_); rintro e w1 ⟨rfl, hw1⟩; have hw2 := hw1.symm; clear hw1; subst hw2)
        | (go_at_call 68; (with_reducible refine (HFd.out nm _ (Below.refl _ _)).mono ?_); rintro e w5 ⟨rfl, hb5⟩; have HB5 := Aside0.mk hb5; obtain ⟨e0, pk, z0⟩ := HPP.out w5 hb5; clear hb5))
    all_goals
      first
        | (have hx : 0 ≤ findCol cols nm := hf
           have h5 : (w5.setCell ⟨wr.heap.size, 0, none⟩ (.string pn)).heap[wr.heap.size]? = some (.cells #[.string pn, .int .i64 r, .bool no] 51 (0, 0)) := heap_setCell_same _ wr.heap.size 0 _ _ (.string pn) (blk_below H3.out HB5.out)
           have hs5 := HS.out.step ((bmore HB3.out HB5.out).setCell (p := ⟨wr.heap.size, 0, none⟩) (Nat.le_refl _) (.string pn))
           have hn5 : nameB pn = true := hpk
           generalize w5.setCell ⟨wr.heap.size, 0, none⟩ (.string pn) = W5 at *
           generalize pn = n5 at *)
        | (have hx : findCol cols nm < 0 := hf
           have h5 : w5.heap[wr.heap.size]? = some (.cells #[.string nm, .int .i64 r, .bool no] 51 (0, 0)) := blk_below H3.out HB5.out
           have hs5 := HS.out.step (bmore HB3.out HB5.out)
           have hn5 : nameB nm = true := hbn
           generalize w5 = W5 at *
           generalize nm = n5 at *)
        | (have h5 : (W3.setCell ⟨wr.heap.size, 0, none⟩ (.string pn)).heap[wr.heap.size]? = some (.cells #[.string pn, .int .i64 r, .bool no] 51 (0, 0)) := heap_setCell_same _ wr.heap.size 0 _ _ (.string pn) H3.out
           have hs5 := HS.out.step (HB3.out.setCell (p := ⟨wr.heap.size, 0, none⟩) (Nat.le_refl _) (.string pn))
           have hn5 : nameB pn = true := hpk
           generalize W3.setCell ⟨wr.heap.size, 0, none⟩ (.string pn) = W5 at *
           generalize pn = n5 at *)
      clear e0 pk z0 p0 p1 HFd HPP
      have e0 : W5.cell? ⟨wr.heap.size, 0, none⟩ = some (.string n5) := cell_of_row _ _ 0 _ _ _ h5
      have p0 : W5.cell? ⟨w.heap.size + 1 + 1, 0, none⟩ = some (.slice D cols.length d) := cell_of_row _ _ 0 _ _ _ hs5.b2
      have p1 : W5.cell? ⟨w.heap.size + 1 + 1, 1, none⟩ = some (.int .i64 0) := cell_of_row _ _ 1 _ _ _ hs5.b2
      have HS5 := Aside0.mk hs5
      have HF5 := Aside0.mk (find04_calls D d cols 0 n5 W5 (Kd.N_reads' hs5.own).2.2)
      have HPQ := Aside0.mk (fun (W : World) (hb : Below W5.heap.size W5 W) => (show W.cell? ⟨wr.heap.size, 0, none⟩ = some (.string n5) ∧ W.cell? ⟨wr.heap.size, 1, none⟩ = some (.int .i64 r) ∧ W.cell? ⟨wr.heap.size, 2, none⟩ = some (.bool no) ∧ W.cell? ⟨w.heap.size + 1 + 1, 0, none⟩ = some (.slice D cols.length d) ∧ S4 w W (some ad) l.length c ks D d 0 cols from ⟨cell_of_row _ _ 0 _ _ _ (blk_below h5 hb), cell_of_row _ _ 1 _ _ _ (blk_below h5 hb), cell_of_row _ _ 2 _ _ _ (blk_below h5 hb), pw_cell_below hb p0, hs5.step hb⟩))
      clear h5 hs5
      rcases Int.lt_or_le (findCol cols n5) 0 with hf5 | hf5
      · obtain ⟨c7, hc7⟩ : ∃ c7, cols ++ [(⟨n5, r, no⟩ : Col)] = c7 := ⟨_, rfl⟩
        have hg7 := HGC.out.more (x := ⟨n5, r, no⟩) hn5 hr hf5
        have hl7 : c7.length ≤ k + 1 := by rw [← hc7]; simp; omega
        rw [hc7] at hg7
        have HC7 := Aside0.mk hc7
        have HG7 := Aside0.mk hg7
        clear hc7 hg7
        go_wp2_with (first
          | (go_at_call 68; (with_reducible refine (HF5.out).mono ?_); rintro e w6 ⟨rfl, hb6⟩; obtain ⟨q0, q1, q2, q3, hs6⟩ := HPQ.out w6 hb6; have HS6 := Aside0.mk hs6; clear hb6 hs6)
          | (at_builtin; refine pushCol (w0 := w6) (W := w6) (w.heap.size + 4) rfl (.tmp 62) (.tmp 64) rfl (.slice D cols.length d) cols ⟨n5, r, no⟩ [.string n5, .int .i64 r, .bool no] (fun _ => False) rfl rfl (fk_Col _ _ ⟨n5, r, no⟩) (fun k h => h.elim) HS6.out.own (Below.refl _ _) HS6.out.lt (by omega) ?_; intro v7 w7 hN7 hb7; rw [HC7.out] at hN7; obtain ⟨D7, d7, rfl, _, _⟩ := hN7.slice; have hk7 := (hb7.block (w.heap.size + 1 + 1) (by omega)).trans HS6.out.b2; have t0 := cell_of_row w7 _ 0 _ _ _ hk7; have t1 := frozen_of_row w7 (w.heap.size + 1 + 1) 0 _ _ hk7; have HS7 := Aside0.mk (HS6.out.out hb7 hN7 0 rfl); clear hk7 hN7 hb7))
        go_roundw
        case rel => exact ⟨k + 1, D7, d7, c7, by omega, by omega, by go_num, hl7, HG7.out, HS7.out⟩
        case measure => simp [intOf]; omega
      · first
          | (exfalso; omega)
          | skip
        all_goals
         go_wp2_with (go_at_call 68; (with_reducible refine (HF5.out).mono ?_); rintro e w6 ⟨rfl, hb6⟩; obtain ⟨q0, q1, q2, q3, hs6⟩ := HPQ.out w6 hb6; have HS6 := Aside0.mk hs6; clear hb6 hs6)
         go_roundw
         case rel => exact ⟨k + 1, D, d, cols, by omega, by omega, by go_num, by omega, HGC.out, HS6.out⟩
         case measure => simp [intOf]; omega
end Go.Proofs.YtmdofdaiepilbaaGreatDoor
