/- The disk's state and the reference's: one and the same. Plain lemmas. The disk's state and the reference's, further: append, sync, rename, up. Plain lemmas. The disk and the reference beside each other in memory: each call of the one leaves the other. The reference's calls beside the disk: behind each the two are alike. -/
import Derived.Test.YtbndgnbhmifefaaDkUpM
import Derived.Test.YtbndgnbhmifefaaDkOwns
import Derived.Test.YtbndgnbhmifefaaRdB
import Derived.Test.YtbndgnbhmifefaaDkAll
namespace Go.Proofs.Ytbndgnbhmifefaa
open Go.RowKit Go.Proofs.YtbndgnbhmifefaaW.PrintWords Go.Proofs.YtbndgnbhmifefaaW.PrintMore
set_option linter.unusedVariables false
set_option linter.unusedSimpArgs false
def toD (f : RF) : ByteArray × DFile := (f.name, ⟨nums (f.kept ++ f.loose), f.kept.size⟩)
structure Like (d : DS) (r : RS) : Prop where
  room : d.room = r.room
  armed : d.armed = r.armed
  gone : d.down = r.gone
  perm : d.L.Perm (r.L.map toD)
  sorted : r.L.Pairwise (fun a b => a.name.data.toList < b.name.data.toList)
  r0 : 0 ≤ r.room
  r1 : r.room ≤ 1000000
  fits : (bytesR r.L : Int) ≤ r.room
  a0 : -1 ≤ r.armed
  a1 : r.armed ≤ 9223372036854775807
  named : ∀ f ∈ r.L, namedB f.name = true
theorem hasL_perm {L L' : DList} (h : L.Perm L') (s : ByteArray) : hasL L s = hasL L' s := by
  unfold hasL
  rw [Bool.eq_iff_iff, List.any_eq_true, List.any_eq_true]
  constructor
  · rintro ⟨x, hx, h1⟩; exact ⟨x, h.mem_iff.1 hx, h1⟩
  · rintro ⟨x, hx, h1⟩; exact ⟨x, h.mem_iff.2 hx, h1⟩
theorem hasL_toD (L : List RF) (s : ByteArray) : hasL (L.map toD) s = hasR L s := by
  unfold hasL hasR
  rw [List.any_map]
  rfl
theorem Like.has {d : DS} {r : RS} (h : Like d r) (s : ByteArray) : hasL d.L s = hasR r.L s := by rw [hasL_perm h.perm, hasL_toD]
theorem Like.may {d : DS} {r : RS} (h : Like d r) (there : Bool) (names : List ByteArray) : mayS d there names = mayN r.gone there (badB names) (hasR r.L (rdS names 0)) := by
  unfold mayS
  rw [h.gone, h.has]
abbrev key (f : RF) : List UInt8 := f.name.data.toList
theorem lex_lt {a b : List UInt8} (h : a ≤ b) (hne : a ≠ b) : a < b := by
  by_cases h1 : a < b
  · exact h1
  · exact absurd (List.le_antisymm h (List.not_lt.1 h1)) hne
theorem gt_iff (a s : ByteArray) : gtS a s = true ↔ s.data.toList < a.data.toList := by
  unfold gtS
  rw [ByteArray.toList_eq, ByteArray.toList_eq, bytesLess_eq]
  simp only [Bool.not_eq_true', Bool.or_eq_false_iff, decide_eq_false_iff_not, beq_eq_false_iff_ne, ne_eq]
  constructor
  · rintro ⟨h1, h2⟩
    rcases List.le_total a.data.toList s.data.toList with h | h
    · exact absurd (lex_lt h h2) h1
    · exact lex_lt h (fun e => h2 e.symm)
  · intro h
    exact ⟨fun h1 => List.lt_asymm h h1, fun e => List.lt_irrefl _ (e ▸ h)⟩
theorem gt_false {a s : ByteArray} (h : gtS a s = false) (hne : a ≠ s) : a.data.toList < s.data.toList := by
  rcases List.le_total a.data.toList s.data.toList with h1 | h1
  · exact lex_lt h1 (fun e => hne (ByteArray.ext (Array.toList_inj.1 e)))
  · have := (gt_iff a s).2 (lex_lt h1 (fun e => hne (ByteArray.ext (Array.toList_inj.1 e.symm))))
    rw [h] at this; cases this
theorem rd_get {L : List RF} {k : Nat} (h : k < L.length) : rdRF L k = L[k] := by unfold rdRF; simp [List.getD_eq_getElem?_getD, h]
/-- a file that is put stands in order -/
theorem put_sorted {L : List RF} {x : RF} {k : Nat} (hs : L.Pairwise (fun a b => key a < key b)) (hne : ∀ f ∈ L, f.name ≠ x.name) (hp : PutAt L x.name k) : (L.take k ++ x :: L.drop k).Pairwise (fun a b => key a < key b) := by
  have hg := List.pairwise_iff_getElem.1 hs
  have hlo : ∀ f ∈ L.take k, key f < key x := by
    intro f hf
    rcases hp.lo with h0 | h0
    · rw [h0, List.take_zero] at hf; cases hf
    · obtain ⟨j, hj, rfl⟩ := List.mem_iff_getElem.1 hf
      rw [List.length_take] at hj
      rw [List.getElem_take]
      have hk1 : k - 1 < L.length := by have := hp.le; omega
      rw [rd_get hk1] at h0
      have h1 := gt_false h0 (hne _ (List.getElem_mem _))
      rcases Nat.lt_or_ge j (k - 1) with h2 | h2
      · exact List.lt_trans (hg j (k - 1) (by omega) hk1 h2) h1
      · have : j = k - 1 := by omega
        subst this; exact h1
  have hhi : ∀ f ∈ L.drop k, key x < key f := by
    intro f hf
    obtain ⟨j, hj, rfl⟩ := List.mem_iff_getElem.1 hf
    rw [List.length_drop] at hj
    rw [List.getElem_drop]
    have h1 := hp.hi (k + j) (by omega) (by omega)
    rw [rd_get (by omega)] at h1
    exact (gt_iff _ _).1 h1
  have h2 := hs
  rw [← List.take_append_drop k L] at h2
  rw [List.pairwise_append] at h2 ⊢
  refine ⟨h2.1, ?_, ?_⟩
  · rw [List.pairwise_cons]; exact ⟨hhi, h2.2.1⟩
  · intro a ha b hb
    rcases List.mem_cons.1 hb with rfl | hb
    · exact hlo a ha
    · exact h2.2.2 a ha b hb
theorem hasR_not {L : List RF} {s : ByteArray} (h : hasR L s = false) : ∀ f ∈ L, f.name ≠ s := by
  unfold hasR at h
  intro f hf
  simpa using List.any_eq_false.1 h f hf
theorem Like.down {d : DS} {r : RS} (h : Like d r) (ha : r.armed = 0) (L' : DList) : Like (d.goes L') { r with armed := -1, gone := true } := by
  unfold DS.goes
  rw [if_pos (h.armed.trans ha)]
  exact ⟨h.room, rfl, rfl, h.perm, h.sorted, h.r0, h.r1, h.fits, by show (-1 : Int) ≤ -1; omega, by show (-1 : Int) ≤ 9223372036854775807; omega, h.named⟩
theorem Like.step {d : DS} {r : RS} (h : Like d r) (ha : r.armed ≠ 0) {L' : DList} {LR : List RF} (hp : L'.Perm (LR.map toD)) (hs : LR.Pairwise (fun a b => key a < key b)) (hf : (bytesR LR : Int) ≤ r.room) (hn : ∀ f ∈ LR, namedB f.name = true) : Like (d.goes L') { r with armed := doA r.armed, L := LR } := by
  unfold DS.goes
  rw [if_neg (fun e => ha (h.armed.symm.trans e))]
  have a0 := h.a0
  have a1 := h.a1
  exact ⟨h.room, by show doA d.armed = doA r.armed; rw [h.armed], h.gone, hp, hs, h.r0, h.r1, hf, by show -1 ≤ doA r.armed; unfold doA; split <;> omega, by show doA r.armed ≤ _; unfold doA; split <;> omega, hn⟩
theorem bytesR_app (A B : List RF) : bytesR (A ++ B) = bytesR A + bytesR B := by unfold bytesR; rw [List.map_append, List.sum_append]
theorem like_create {d : DS} {r : RS} {s : ByteArray} {k : Nat} (h : Like d r) (ha : r.armed ≠ 0) (hns : namedB s = true) (hno : hasR r.L s = false) (hp : PutAt r.L s k) :
    Like (d.goes ((s, ⟨[], 0⟩) :: d.L)) { r with armed := doA r.armed, L := r.L.take k ++ ⟨s, ⟨#[]⟩, ⟨#[]⟩⟩ :: r.L.drop k } := by
  refine h.step ha ?_ (put_sorted (x := ⟨s, ⟨#[]⟩, ⟨#[]⟩⟩) h.sorted (hasR_not hno) hp) ?_ ?_
  · have h1 : ((r.L.take k ++ ⟨s, ⟨#[]⟩, ⟨#[]⟩⟩ :: r.L.drop k).map toD).Perm ((s, (⟨[], 0⟩ : DFile)) :: r.L.map toD) := by
      rw [List.map_append, List.map_cons]
      refine List.perm_middle.trans ?_
      rw [← List.map_append, List.take_append_drop]
      exact List.Perm.refl _
    exact (h.perm.cons _).trans h1.symm
  · have h1 : bytesR (r.L.take k ++ ⟨s, ⟨#[]⟩, ⟨#[]⟩⟩ :: r.L.drop k) = bytesR r.L := by
      rw [bytesR_app]
      have h2 : bytesR ((⟨s, ⟨#[]⟩, ⟨#[]⟩⟩ : RF) :: r.L.drop k) = bytesR (r.L.drop k) := by show 0 + 0 + bytesR (r.L.drop k) = _; omega
      rw [h2, ← bytesR_app, List.take_append_drop]
    rw [h1]
    exact h.fits
  · intro f hf
    rcases List.mem_append.1 hf with hf | hf
    · exact h.named f (List.mem_of_mem_take hf)
    · rcases List.mem_cons.1 hf with rfl | hf
      · exact hns
      · exact h.named f (List.mem_of_mem_drop hf)
theorem key_ne {L : List RF} (hs : L.Pairwise (fun a b => key a < key b)) {i j : Nat} (hi : i < L.length) (hj : j < L.length) (hij : i ≠ j) : (L[i]).name ≠ (L[j]).name := by
  have hg := List.pairwise_iff_getElem.1 hs
  intro he
  have hk : key L[i] = key L[j] := by show (L[i]).name.data.toList = (L[j]).name.data.toList; rw [he]
  rcases Nat.lt_or_ge i j with h | h
  · have := hg i j hi hj h; rw [hk] at this; exact List.lt_irrefl _ this
  · have := hg j i hj hi (by omega); rw [hk] at this; exact List.lt_irrefl _ this
/-- the file at a place, cut out: what is left is what has another name -/
theorem cut_filter {L : List RF} (hs : L.Pairwise (fun a b => key a < key b)) {k : Nat} (hk : k < L.length) : L.take k ++ L.drop (k + 1) = L.filter (fun f => decide (f.name ≠ (rdRF L k).name)) := by
  rw [rd_get hk]
  obtain ⟨s, hsn⟩ : ∃ s, (L[k]).name = s := ⟨_, rfl⟩
  have hL : L = L.take k ++ (L[k] :: L.drop (k + 1)) := by rw [← List.drop_eq_getElem_cons hk, List.take_append_drop]
  have h1 : L.filter (fun f => decide (f.name ≠ (L[k]).name)) = (L.take k).filter (fun f => decide (f.name ≠ (L[k]).name)) ++ (L.drop (k + 1)).filter (fun f => decide (f.name ≠ (L[k]).name)) := by
    rw [hsn]
    conv => lhs; rw [hL]
    rw [List.filter_append, List.filter_cons, if_neg (by simp [hsn])]
  rw [h1]
  congr 1
  · refine (List.filter_eq_self.2 fun f hf => ?_).symm
    obtain ⟨j, hj, rfl⟩ := List.mem_iff_getElem.1 hf
    rw [List.length_take] at hj
    rw [List.getElem_take]
    exact decide_eq_true (key_ne hs (by omega) hk (by omega))
  · refine (List.filter_eq_self.2 fun f hf => ?_).symm
    obtain ⟨j, hj, rfl⟩ := List.mem_iff_getElem.1 hf
    rw [List.length_drop] at hj
    rw [List.getElem_drop]
    exact decide_eq_true (key_ne hs (by omega) hk (by omega))
theorem delL_toD (L : List RF) (s : ByteArray) : delL (L.map toD) s = (L.filter (fun f => decide (f.name ≠ s))).map toD := by
  unfold delL
  rw [List.filter_map]
  rfl
theorem bytesR_cut {L : List RF} {k : Nat} (hk : k < L.length) : bytesR (L.take k ++ L.drop (k + 1)) + ((rdRF L k).kept.size + (rdRF L k).loose.size) = bytesR L := by
  have h1 : bytesR L = bytesR (L.take (k + 1)) + bytesR (L.drop (k + 1)) := by rw [← bytesR_app, List.take_append_drop]
  have h2 := bytesR_step hk
  rw [bytesR_app, h1, h2]
  omega
theorem cut_props {L : List RF} {k : Nat} (hs : L.Pairwise (fun a b => key a < key b)) (hk : k < L.length) (hn : ∀ f ∈ L, namedB f.name = true) : (L.take k ++ L.drop (k + 1)).Pairwise (fun a b => key a < key b) ∧ bytesR (L.take k ++ L.drop (k + 1)) ≤ bytesR L ∧ (∀ f ∈ L.take k ++ L.drop (k + 1), namedB f.name = true) := by
  refine ⟨?_, by have := bytesR_cut hk; omega, ?_⟩
  · rw [cut_filter hs hk]; exact hs.filter _
  · rw [cut_filter hs hk]; intro f hf; exact hn f (List.mem_filter.1 hf).1
theorem like_remove {d : DS} {r : RS} {s : ByteArray} {k : Nat} (h : Like d r) (ha : r.armed ≠ 0) (hk : k < r.L.length) (hks : (rdRF r.L k).name = s) : Like (d.goes (delL d.L s)) { r with armed := doA r.armed, L := r.L.take k ++ r.L.drop (k + 1) } := by
  obtain ⟨h1, h2, h3⟩ := cut_props h.sorted hk h.named
  refine h.step ha ?_ h1 (by have := h.fits; omega) h3
  have h4 : (delL d.L s).Perm (delL (r.L.map toD) s) := h.perm.filter _
  rw [delL_toD, ← hks, ← cut_filter h.sorted hk] at h4
  rw [← hks]
  exact h4
theorem names_nodup {d : DS} {r : RS} (h : Like d r) : (d.L.map (·.1)).Nodup := by
  have h1 : (d.L.map (·.1)).Perm ((r.L.map toD).map (·.1)) := h.perm.map _
  rw [h1.nodup_iff, List.map_map]
  have h2 : (r.L.map ((·.1) ∘ toD)) = r.L.map (·.name) := rfl
  rw [h2]
  unfold List.Nodup
  rw [List.pairwise_map]
  refine h.sorted.imp ?_
  intro a b hab he
  have hk : a.name.data.toList = b.name.data.toList := by rw [he]
  rw [hk] at hab
  exact List.lt_irrefl _ hab
theorem getL_of {L : DList} (hn : (L.map (·.1)).Nodup) {p : ByteArray × DFile} (hp : p ∈ L) : getL L p.1 = p.2 := by
  unfold getL
  cases hf : L.find? (fun q => decide (q.1 = p.1)) with
  | none =>
    have := List.find?_eq_none.1 hf p hp
    simp at this
  | some q =>
    have h1 := List.mem_of_find?_eq_some hf
    have h2 := List.find?_some hf
    have h3 : q.1 = p.1 := of_decide_eq_true h2
    have : q = p := by
      exact nodup_inj hn h1 hp h3
    rw [this]; rfl
theorem Like.get {d : DS} {r : RS} (h : Like d r) {k : Nat} (hk : k < r.L.length) : getL d.L (rdRF r.L k).name = (toD (rdRF r.L k)).2 := by
  have h1 : toD (rdRF r.L k) ∈ d.L := h.perm.mem_iff.2 (List.mem_map.2 ⟨_, by rw [rd_get hk]; exact List.getElem_mem _, rfl⟩)
  exact getL_of (names_nodup h) h1
theorem updL_set {L : List RF} (hs : L.Pairwise (fun a b => key a < key b)) {k : Nat} (hk : k < L.length) {x : RF} (hx : x.name = (rdRF L k).name) : updL (L.map toD) x.name (toD x).2 = (L.set k x).map toD := by
  unfold updL
  rw [List.map_map]
  apply List.ext_getElem
  · simp
  intro j h1 h2
  have hj : j < L.length := by simpa using h1
  rw [List.getElem_map, List.getElem_map, List.getElem_set]
  rw [rd_get hk] at hx
  by_cases hjk : k = j
  · subst hjk
    rw [if_pos rfl]
    show (if (L[k]).name = x.name then ((L[k]).name, (toD x).2) else toD L[k]) = toD x
    rw [if_pos hx.symm, ← hx]
    rfl
  · rw [if_neg hjk]
    show (if (L[j]).name = x.name then ((L[j]).name, (toD x).2) else toD L[j]) = toD L[j]
    rw [if_neg (by rw [hx]; exact key_ne hs hj hk (fun e => hjk e.symm))]
theorem updL_perm {L L' : DList} (h : L.Perm L') (s : ByteArray) (f : DFile) : (updL L s f).Perm (updL L' s f) := h.map _
theorem set_sorted {L : List RF} (hs : L.Pairwise (fun a b => key a < key b)) {k : Nat} (hk : k < L.length) {x : RF} (hx : x.name = (rdRF L k).name) : (L.set k x).Pairwise (fun a b => key a < key b) := by
  have h1 : (L.set k x).map key = L.map key := by
    apply List.ext_getElem
    · simp
    intro j h1 h2
    rw [List.getElem_map, List.getElem_map, List.getElem_set]
    split
    · rename_i he; subst he; rw [rd_get hk] at hx; show x.name.data.toList = _; rw [hx]
    · rfl
  have h2 : (L.map key).Pairwise (· < ·) := List.pairwise_map.2 hs
  rw [← h1] at h2
  exact List.pairwise_map.1 h2
theorem bytesR_set {L : List RF} {k : Nat} (hk : k < L.length) (x : RF) : bytesR (L.set k x) + ((rdRF L k).kept.size + (rdRF L k).loose.size) = bytesR L + (x.kept.size + x.loose.size) := by
  have h0 : L = L.take k ++ (L[k] :: L.drop (k + 1)) := by rw [← List.drop_eq_getElem_cons hk, List.take_append_drop]
  have h1 : L.set k x = L.take k ++ (x :: L.drop (k + 1)) := by
    conv => lhs; rw [h0]
    rw [List.set_append_right _ _ (by rw [List.length_take]; omega), List.length_take, Nat.min_eq_left (by omega), Nat.sub_self, List.set_cons_zero]
  have hc : ∀ (y : RF) (M : List RF), bytesR (y :: M) = y.kept.size + y.loose.size + bytesR M := fun y M => by unfold bytesR; simp
  have h2 := congrArg bytesR h0
  rw [bytesR_app, hc] at h2
  rw [h1, bytesR_app, hc, rd_get hk]
  omega
theorem nums_app (a b : ByteArray) : nums (a ++ b) = nums a ++ nums b := by unfold nums; simp
theorem like_set {d : DS} {r : RS} {s : ByteArray} {k : Nat} (h : Like d r) (hk : k < r.L.length) (hks : (rdRF r.L k).name = s) (x : RF) (hx : x.name = s) (hb : x.kept.size + x.loose.size ≤ (rdRF r.L k).kept.size + (rdRF r.L k).loose.size) : (updL d.L s (toD x).2).Perm ((r.L.set k x).map toD) ∧ (r.L.set k x).Pairwise (fun a b => key a < key b) ∧ (bytesR (r.L.set k x) : Int) ≤ r.room ∧ (∀ f ∈ r.L.set k x, namedB f.name = true) := by
  have h1 := updL_set h.sorted hk (x := x) (hx.trans hks.symm)
  rw [hx] at h1
  refine ⟨(updL_perm h.perm s _).trans (by rw [h1]), set_sorted h.sorted hk (hx.trans hks.symm), by have := bytesR_set hk x; have := h.fits; omega, fun f hf => ?_⟩
  rcases List.mem_or_eq_of_mem_set hf with hf | rfl
  · exact h.named f hf
  · rw [hx, ← hks, rd_get hk]; exact h.named _ (List.getElem_mem _)
end Go.Proofs.Ytbndgnbhmifefaa
namespace Go.Proofs.Ytbndgnbhmifefaa
open Go.RowKit Go.Proofs.YtbndgnbhmifefaaW.PrintWords Go.Proofs.YtbndgnbhmifefaaW.PrintMore
set_option linter.unusedVariables false
set_option linter.unusedSimpArgs false
theorem like_set2 {d : DS} {r : RS} {s : ByteArray} {k : Nat} (h : Like d r) (hk : k < r.L.length) (hks : (rdRF r.L k).name = s) (x : RF) (hx : x.name = s) (hb : (bytesR r.L : Int) + (x.kept.size + x.loose.size : Nat) ≤ r.room + ((rdRF r.L k).kept.size + (rdRF r.L k).loose.size : Nat)) : (updL d.L s (toD x).2).Perm ((r.L.set k x).map toD) ∧ (r.L.set k x).Pairwise (fun a b => key a < key b) ∧ (bytesR (r.L.set k x) : Int) ≤ r.room ∧ (∀ f ∈ r.L.set k x, namedB f.name = true) := by
  have h1 := updL_set h.sorted hk (x := x) (hx.trans hks.symm)
  rw [hx] at h1
  refine ⟨(updL_perm h.perm s _).trans (by rw [h1]), set_sorted h.sorted hk (hx.trans hks.symm), by have := bytesR_set hk x; omega, fun f hf => ?_⟩
  rcases List.mem_or_eq_of_mem_set hf with hf | rfl
  · exact h.named f hf
  · rw [hx, ← hks, rd_get hk]; exact h.named _ (List.getElem_mem _)
theorem nums_len (b : ByteArray) : (nums b).length = b.size := by unfold nums; simp
theorem like_sync {d : DS} {r : RS} {s : ByteArray} {k : Nat} (h : Like d r) (ha : r.armed ≠ 0) (hk : k < r.L.length) (hks : (rdRF r.L k).name = s) :
    Like (d.goes (updL d.L s ⟨(getL d.L s).bytes, (getL d.L s).bytes.length⟩)) { r with armed := doA r.armed, L := r.L.set k ⟨(rdRF r.L k).name, (rdRF r.L k).kept ++ (rdRF r.L k).loose, ⟨#[]⟩⟩ } := by
  have hg := h.get hk
  rw [hks] at hg
  obtain ⟨h1, h2, h3, h4⟩ := like_set2 h hk hks ⟨(rdRF r.L k).name, (rdRF r.L k).kept ++ (rdRF r.L k).loose, ⟨#[]⟩⟩ hks (by have := h.fits; simp only [ByteArray.size_append]; have h0 : (⟨#[]⟩ : ByteArray).size = 0 := rfl; omega)
  refine h.step ha ?_ h2 h3 h4
  rw [hg]
  have he : (toD ⟨(rdRF r.L k).name, (rdRF r.L k).kept ++ (rdRF r.L k).loose, ⟨#[]⟩⟩).2 = ⟨(toD (rdRF r.L k)).2.bytes, (toD (rdRF r.L k)).2.bytes.length⟩ := by
    show (⟨nums ((rdRF r.L k).kept ++ (rdRF r.L k).loose ++ ⟨#[]⟩), ((rdRF r.L k).kept ++ (rdRF r.L k).loose).size⟩ : DFile) = ⟨nums ((rdRF r.L k).kept ++ (rdRF r.L k).loose), (nums ((rdRF r.L k).kept ++ (rdRF r.L k).loose)).length⟩
    rw [nums_len, nums_app _ ⟨#[]⟩]
    have : nums ⟨#[]⟩ = [] := rfl
    rw [this, List.append_nil]
  rw [← he]
  exact h1
theorem like_append {d : DS} {r : RS} {s : ByteArray} {k : Nat} (h : Like d r) (hk : k < r.L.length) (hks : (rdRF r.L k).name = s) (b : ByteArray) (hfit : (b.size : Int) ≤ r.room - (bytesR r.L : Int)) :
    Like (({ d with L := updL d.L s ⟨(getL d.L s).bytes ++ nums b, (getL d.L s).kept⟩ } : DS).goes (updL d.L s ⟨(getL d.L s).bytes ++ nums b, (getL d.L s).kept⟩)) (if r.armed = 0 then { r with armed := -1, gone := true, L := r.L.set k ⟨(rdRF r.L k).name, (rdRF r.L k).kept, (rdRF r.L k).loose ++ b⟩ } else { r with armed := doA r.armed, L := r.L.set k ⟨(rdRF r.L k).name, (rdRF r.L k).kept, (rdRF r.L k).loose ++ b⟩ }) := by
  have hg := h.get hk
  rw [hks] at hg
  obtain ⟨h1, h2, h3, h4⟩ := like_set2 h hk hks ⟨(rdRF r.L k).name, (rdRF r.L k).kept, (rdRF r.L k).loose ++ b⟩ hks (by simp only [ByteArray.size_append]; omega)
  have he : (toD ⟨(rdRF r.L k).name, (rdRF r.L k).kept, (rdRF r.L k).loose ++ b⟩).2 = ⟨(toD (rdRF r.L k)).2.bytes ++ nums b, (toD (rdRF r.L k)).2.kept⟩ := by
    show (⟨nums ((rdRF r.L k).kept ++ ((rdRF r.L k).loose ++ b)), (rdRF r.L k).kept.size⟩ : DFile) = ⟨nums ((rdRF r.L k).kept ++ (rdRF r.L k).loose) ++ nums b, (rdRF r.L k).kept.size⟩
    rw [nums_app, nums_app, nums_app, List.append_assoc]
  rw [he, ← hg] at h1
  generalize updL d.L s ⟨(getL d.L s).bytes ++ nums b, (getL d.L s).kept⟩ = L1 at *
  generalize r.L.set k ⟨(rdRF r.L k).name, (rdRF r.L k).kept, (rdRF r.L k).loose ++ b⟩ = L2 at *
  have hl : Like ({ d with L := L1 } : DS) ({ r with L := L2 } : RS) := ⟨h.room, h.armed, h.gone, h1, h2, h.r0, h.r1, h3, h.a0, h.a1, h4⟩
  by_cases ha : r.armed = 0
  · rw [if_pos ha]
    exact hl.down ha L1
  · rw [if_neg ha]
    exact hl.step (LR := L2) ha h1 h2 h3 h4
theorem cut_not {L : List RF} {t : ByteArray} (h : hasR L t = false) : L.filter (fun f => decide (f.name ≠ t)) = L := by
  refine List.filter_eq_self.2 fun f hf => ?_
  exact decide_eq_true (hasR_not h f hf)
theorem like_rename {d : DS} {r : RS} {s t : ByteArray} {k j : Nat} {L2 L3 : List RF} (h : Like d r) (ha : r.armed ≠ 0) (hnt : namedB t = true) (hk : k < r.L.length) (hks : (rdRF r.L k).name = s) (h2 : L2 = r.L.take k ++ r.L.drop (k + 1)) (h3 : (hasR L2 t = false ∧ L3 = L2) ∨ ∃ m, m < L2.length ∧ (rdRF L2 m).name = t ∧ L3 = L2.take m ++ L2.drop (m + 1)) (hp : PutAt L3 t j) :
    Like (d.goes ((t, getL d.L s) :: delL (delL d.L s) t)) { r with armed := doA r.armed, L := L3.take j ++ ⟨t, (rdRF r.L k).kept, (rdRF r.L k).loose⟩ :: L3.drop j } := by
  obtain ⟨c1, c2, c3⟩ := cut_props h.sorted hk h.named
  have e2 : L2 = r.L.filter (fun f => decide (f.name ≠ s)) := by rw [h2, cut_filter h.sorted hk, hks]
  rw [← h2] at c1 c2 c3
  have hbc := bytesR_cut hk
  rw [← h2] at hbc
  have e3 : L3 = L2.filter (fun f => decide (f.name ≠ t)) := by
    rcases h3 with ⟨h4, h5⟩ | ⟨m, h4, h5, h6⟩
    · rw [h5, cut_not h4]
    · rw [h6, cut_filter c1 h4, h5]
  have b1 : bytesR L3 ≤ bytesR L2 := by
    rcases h3 with ⟨h4, h5⟩ | ⟨m, h4, h5, h6⟩
    · rw [h5]; omega
    · have := bytesR_cut h4; rw [← h6] at this; omega
  have s3 : L3.Pairwise (fun a b => key a < key b) := by rw [e3]; exact c1.filter _
  have n3 : ∀ f ∈ L3, namedB f.name = true := by rw [e3]; intro f hf; exact c3 f (List.mem_filter.1 hf).1
  have x3 : ∀ f ∈ L3, f.name ≠ t := by rw [e3]; intro f hf; exact of_decide_eq_true (List.mem_filter.1 hf).2
  have hg := h.get hk
  rw [hks] at hg
  have hcons : ∀ (y : RF) (M : List RF), bytesR (y :: M) = y.kept.size + y.loose.size + bytesR M := fun y M => by unfold bytesR; simp
  refine h.step ha ?_ (put_sorted (x := ⟨t, (rdRF r.L k).kept, (rdRF r.L k).loose⟩) s3 x3 hp) ?_ ?_
  · have p1 : (delL (delL d.L s) t).Perm (L3.map toD) := by
      have q1 : (delL (delL d.L s) t).Perm (delL (delL (r.L.map toD) s) t) := (h.perm.filter _).filter _
      rw [delL_toD, delL_toD, ← e2, ← e3] at q1
      exact q1
    have p2 : ((L3.take j ++ ⟨t, (rdRF r.L k).kept, (rdRF r.L k).loose⟩ :: L3.drop j).map toD).Perm ((t, getL d.L s) :: L3.map toD) := by
      rw [List.map_append, List.map_cons]
      refine List.perm_middle.trans ?_
      rw [← List.map_append, List.take_append_drop, hg]
      exact List.Perm.refl _
    exact (p1.cons _).trans p2.symm
  · have h1 : bytesR (L3.take j ++ ⟨t, (rdRF r.L k).kept, (rdRF r.L k).loose⟩ :: L3.drop j) = (rdRF r.L k).kept.size + (rdRF r.L k).loose.size + bytesR L3 := by
      rw [bytesR_app, hcons]
      have h2 := bytesR_app (L3.take j) (L3.drop j)
      rw [List.take_append_drop] at h2
      simp only
      omega
    rw [h1]
    have := h.fits
    omega
  · intro f hf
    rcases List.mem_append.1 hf with hf | hf
    · exact n3 f (List.mem_of_mem_take hf)
    · rcases List.mem_cons.1 hf with rfl | hf
      · exact hnt
      · exact n3 f (List.mem_of_mem_drop hf)
/-- the names of a disk's files, in order -/
def namesD (L : DList) : List (List UInt8) := sortN (L.map (fun p => p.1.data.toList))
def upD (keep : List Int) (L : DList) : DList := L.map (fun p => (p.1, upFile (keepAt keep ((namesD L).idxOf p.1.data.toList)) p.2))
theorem sorted_le {L : List RF} (h : L.Pairwise (fun a b => key a < key b)) : (L.map key).Pairwise (fun x y => x ≤ y) := by
  rw [List.pairwise_map]
  exact h.imp (fun h => List.le_of_lt h)
theorem names_of {d : DS} {r : RS} (h : Like d r) : namesD d.L = r.L.map key := by
  unfold namesD
  have h1 : (d.L.map (fun p => p.1.data.toList)).Perm (r.L.map key) := by
    have := h.perm.map (fun p => p.1.data.toList)
    rw [List.map_map] at this
    exact this
  rw [sortN_perm h1]
  refine List.Perm.eq_of_pairwise (le := fun x y => x ≤ y) (fun a b _ _ h1 h2 => List.le_antisymm h1 h2) (sortN_sorted _) (sorted_le h.sorted) ?_
  exact List.mergeSort_perm _ _
theorem keys_nodup {L : List RF} (h : L.Pairwise (fun a b => key a < key b)) : (L.map key).Nodup := by
  unfold List.Nodup
  rw [List.pairwise_map]
  refine h.imp ?_
  intro a b hab he
  rw [he] at hab
  exact List.lt_irrefl _ hab
theorem upFile_toD (n : Int) (hn : -9223372036854775808 ≤ n) (f : RF) : upFile n (toD f).2 = (toD ⟨f.name, f.kept ++ f.loose.extract 0 (upM n f.loose.size), ⟨#[]⟩⟩).2 := by
  have hm := upM_le n hn f.loose.size
  have h1 : upN n f.kept.size (nums (f.kept ++ f.loose)).length = f.kept.size + upM n f.loose.size := by
    unfold upN upM
    rw [nums_len, ByteArray.size_append, Nat.add_sub_cancel_left]
  have hz : nums (⟨#[]⟩ : ByteArray) = [] := rfl
  show (⟨(nums (f.kept ++ f.loose)).take (upN n f.kept.size (nums (f.kept ++ f.loose)).length), upN n f.kept.size (nums (f.kept ++ f.loose)).length⟩ : DFile) = ⟨nums (f.kept ++ f.loose.extract 0 (upM n f.loose.size) ++ ⟨#[]⟩), (f.kept ++ f.loose.extract 0 (upM n f.loose.size)).size⟩
  rw [h1, nums_app _ ⟨#[]⟩, hz, List.append_nil, nums_app, nums_app, ByteArray.size_append, ByteArray.size_extract]
  generalize upM n f.loose.size = m at *
  have h2 : nums (f.loose.extract 0 m) = (nums f.loose).take m := by
    unfold nums
    simp [ByteArray.data_extract, List.map_take, Array.toList_extract, List.extract_eq_take_drop]
  rw [h2]
  have h3 : (nums f.kept).length = f.kept.size := nums_len _
  rw [List.take_append, h3, Nat.add_sub_cancel_left, List.take_of_length_le (by omega)]
  congr 1
  omega
theorem upL_get {keep : List Int} {L : List RF} {i : Nat} (h : i < (upL keep L).length) (h' : i < L.length) : (upL keep L)[i] = upF keep i L[i] := List.getElem_mapIdx ..
theorem like_up {d : DS} {r : RS} (h : Like d r) (keep : List Int) (hkl : ∀ i, -9223372036854775808 ≤ keepAt keep i) : Like { d with armed := -1, down := false, L := upD keep d.L } { r with gone := false, armed := -1, L := upL keep r.L } := by
  have hp : (upD keep d.L).Perm ((upL keep r.L).map toD) := by
    unfold upD
    rw [names_of h]
    refine (h.perm.map _).trans ?_
    rw [List.map_map]
    have : (r.L.map ((fun p : ByteArray × DFile => (p.1, upFile (keepAt keep ((r.L.map key).idxOf p.1.data.toList)) p.2)) ∘ toD)) = (upL keep r.L).map toD := by
      apply List.ext_getElem
      · unfold upL; simp
      intro i h1 h2
      have hi : i < r.L.length := by simpa using h1
      rw [List.getElem_map, List.getElem_map, upL_get (by simpa using h2) hi]
      have h3 : (r.L.map key).idxOf (key r.L[i]) = i := by
        have := (keys_nodup h.sorted).idxOf_getElem i (by simpa using hi)
        rw [List.getElem_map] at this
        exact this
      show ((toD r.L[i]).1, upFile (keepAt keep ((r.L.map key).idxOf (key r.L[i]))) (toD r.L[i]).2) = toD (upF keep i r.L[i])
      rw [h3, upFile_toD _ (hkl i)]
      rfl
    rw [this]
  have hkeys : (upL keep r.L).map key = r.L.map key := by
    apply List.ext_getElem
    · unfold upL; simp
    intro i h1 h2
    rw [List.getElem_map, List.getElem_map, upL_get (by simpa using h1) (by simpa using h2)]
    rfl
  have hs : (upL keep r.L).Pairwise (fun a b => key a < key b) := by
    have h2 : (r.L.map key).Pairwise (· < ·) := List.pairwise_map.2 h.sorted
    rw [← hkeys] at h2
    exact List.pairwise_map.1 h2
  have hb : bytesR (upL keep r.L) ≤ bytesR r.L := by
    have hq : ∀ (f : Nat → RF → RF) (L : List RF), (L.mapIdx f).map (fun f => f.kept.size + f.loose.size) = L.mapIdx (fun i x => (f i x).kept.size + (f i x).loose.size) := by
      intro f L
      apply List.ext_getElem
      · simp
      intro i h1 h2
      simp
    unfold bytesR upL
    rw [hq]
    have : ∀ (L : List RF) (o : Nat), (L.mapIdx (fun i f => (upF keep (o + i) f).kept.size + (upF keep (o + i) f).loose.size)).sum ≤ (L.map (fun f => f.kept.size + f.loose.size)).sum := by
      intro L
      induction L with
      | nil => intro o; simp
      | cons x L ih =>
        intro o
        rw [List.mapIdx_cons, List.map_cons, List.sum_cons, List.sum_cons]
        have h1 := ih (o + 1)
        have h2 : (L.mapIdx (fun i f => (upF keep (o + (i + 1)) f).kept.size + (upF keep (o + (i + 1)) f).loose.size)) = (L.mapIdx (fun i f => (upF keep (o + 1 + i) f).kept.size + (upF keep (o + 1 + i) f).loose.size)) := by
          congr 1; funext i f; rw [show o + (i + 1) = o + 1 + i by omega]
        rw [h2]
        have h3 : (upF keep (o + 0) x).kept.size + (upF keep (o + 0) x).loose.size ≤ x.kept.size + x.loose.size := by
          unfold upF
          have := upM_le (keepAt keep (o + 0)) (hkl _) x.loose.size
          show (x.kept ++ x.loose.extract 0 (upM (keepAt keep (o + 0)) x.loose.size)).size + 0 ≤ _
          rw [ByteArray.size_append, ByteArray.size_extract]
          omega
        omega
    have h0 := this r.L 0
    simp only [Nat.zero_add] at h0
    exact h0
  have hf := h.fits
  refine ⟨h.room, rfl, rfl, hp, hs, h.r0, h.r1, by show (bytesR (upL keep r.L) : Int) ≤ r.room; omega, by show (-1 : Int) ≤ -1; omega, by show (-1 : Int) ≤ 9223372036854775807; omega, fun f hf => ?_⟩
  obtain ⟨i, hi, rfl⟩ := List.mem_iff_getElem.1 hf
  have hi' : i < r.L.length := by simpa [upL] using hi
  have : (upL keep r.L)[i] = upF keep i r.L[i] := upL_get hi hi'
  show namedB ((upL keep r.L)[i]).name = true
  rw [this]
  exact h.named r.L[i] (List.getElem_mem hi')
theorem like_total {d : DS} {r : RS} (h : Like d r) : totalL d.L = bytesR r.L := by
  unfold totalL bytesR
  have h1 := (h.perm.map (fun p => p.2.bytes.length)).sum_nat
  rw [h1, List.map_map]
  congr 1
  refine List.map_congr_left fun f _ => ?_
  show (nums (f.kept ++ f.loose)).length = _
  rw [nums_len, ByteArray.size_append]
theorem like_arm {d : DS} {r : RS} (h : Like d r) (n : Int) (hn : n ≤ 9223372036854775807) : Like { d with armed := max n (-1) } { r with armed := max n (-1) } := by
  refine ⟨h.room, rfl, h.gone, h.perm, h.sorted, h.r0, h.r1, h.fits, ?_, ?_, h.named⟩
  · show -1 ≤ max n (-1); omega
  · show max n (-1) ≤ 9223372036854775807; omega
end Go.Proofs.Ytbndgnbhmifefaa
namespace Go.Proofs.Ytbndgnbhmifefaa
open Go.RowKit Go.Proofs.YtbndgnbhmifefaaW.PrintWords Go.Proofs.YtbndgnbhmifefaaW.PrintMore
set_option linter.unusedVariables false
set_option linter.unusedSimpArgs false
structure Pair (P : Nat → Prop) (w : World) (gd M gr : Nat) (d : DS) (r : RS) : Prop where
  hP : ∀ k, P k → k < w.heap.size
  rep : ∃ O Q : Nat → Prop, ∃ E : List DEnt, (∀ k, O k → ¬ P k) ∧ (∀ k, Q k → ¬ P k) ∧ (∀ k, k < w.heap.size → O k → ¬ Q k) ∧ E.map nf = d.L ∧ DRep O w gd M d.room d.armed d.down E ∧ RRep Q w gr r
abbrev PFrame (P : Nat → Prop) (w w' : World) : Prop := DFrame (fun k => ¬ P k) w w'
variable {P : Nat → Prop} {gd M gr : Nat} {d : DS} {r : RS}
theorem PFrame.at {w w' : World} (h : PFrame P w w') {k : Nat} (hk : P k) (hlt : k < w.heap.size) : w'.heap[k]? = w.heap[k]? := h.block k hlt (fun hn => hn hk)
theorem PFrame.less {P' : Nat → Prop} {w w' : World} (h : PFrame P w w') (hp : ∀ k, P' k → P k) : PFrame P' w w' := h.mono (fun k hk hk' => hk (hp k hk'))
theorem PFrame.below {B : Nat} {w w' : World} (h : PFrame P w w') (hP : ∀ k, k < B → P k) (hB : B ≤ w.heap.size) : Below B w w' :=
  ⟨h.os, h.tape, h.output, h.size, fun k hk => h.block k (by omega) (fun hn => hn (hP k hk))⟩
theorem Pair.less {P' : Nat → Prop} {w : World} (h : Pair P w gd M gr d r) (hp : ∀ k, P' k → P k) : Pair P' w gd M gr d r := by
  obtain ⟨O, Q, E, h1, h2, h3⟩ := h.rep
  exact ⟨fun k hk => h.hP k (hp k hk), O, Q, E, fun k hk hk' => h1 k hk (hp k hk'), fun k hk hk' => h2 k hk (hp k hk'), h3⟩
theorem Pair.grow {w w' : World} (h : Pair P w gd M gr d r) (hb : Below w.heap.size w w') : Pair (fun k => P k ∨ (w.heap.size ≤ k ∧ k < w'.heap.size)) w' gd M gr d r := by
  obtain ⟨O, Q, E, h1, h2, h3, h4, h5, h6⟩ := h.rep
  have hs := hb.size
  refine ⟨fun k hk => ?_, fun k => O k ∧ k < w.heap.size, fun k => Q k ∧ k < w.heap.size, E, fun k hk hn => ?_, fun k hk hn => ?_, fun k hlt hk hq => h3 k hk.2 hk.1 hq.1, h4, (h5.mono (fun k hk hlt => ⟨hk, hlt⟩)).below hb, (h6.mono (fun k hk hlt => ⟨hk, hlt⟩)).below hb⟩
  · rcases hk with hk | hk
    · have := h.hP k hk; omega
    · exact hk.2
  · rcases hn with hn | hn
    · exact h1 k hk.1 hn
    · have := hk.2; omega
  · rcases hn with hn | hn
    · exact h2 k hk.1 hn
    · have := hk.2; omega
theorem Pair.below {w w' : World} (h : Pair P w gd M gr d r) (hb : Below w.heap.size w w') : Pair P w' gd M gr d r := (h.grow hb).less (fun k hk => .inl hk)
theorem PFrame.of {w w' : World} (hb : Below w.heap.size w w') : PFrame P w w' := DFrame.of hb
theorem Pair.disk {w : World} (h : Pair P w gd M gr d r) : ∃ O : Nat → Prop, (∀ k, O k → ¬ P k) ∧ Has O w w gd M d ∧ ∀ w' d', Has O w w' gd M d' → Pair P w' gd M gr d' r ∧ PFrame P w w' := by
  obtain ⟨O, Q, E, h1, h2, h3, h4, h5, h6⟩ := h.rep
  have hO : ∀ k, (O k ∧ k < w.heap.size) ∨ w.heap.size ≤ k → ¬ P k := by
    rintro k (hk | hk) hp
    · exact h1 k hk.1 hp
    · have := h.hP k hp; omega
  refine ⟨fun k => (O k ∧ k < w.heap.size) ∨ w.heap.size ≤ k, hO, ⟨fun k hk => .inr hk, DFrame.refl _ _, E, h4, h5.mono (fun k hk hlt => .inl ⟨hk, hlt⟩)⟩, fun w' d' hh => ?_⟩
  obtain ⟨E', e1, e2⟩ := hh.rep
  have hs := hh.frame.size
  refine ⟨⟨fun k hk => by have := h.hP k hk; omega, _, fun k => Q k ∧ k < w.heap.size, E', hO, fun k hk => h2 k hk.1, ?_, e1, e2, ?_⟩, hh.frame.mono (fun k hk => hO k hk)⟩
  · rintro k hlt (hk | hk) hq
    · exact h3 k hk.2 hk.1 hq.1
    · have := hq.2; omega
  · refine (h6.mono (Q' := fun k => Q k ∧ k < w.heap.size) (fun k hk hlt => ⟨hk, hlt⟩)).kept (fun k hk hlt => hh.frame.block k hlt ?_)
    rintro (ho | ho)
    · exact h3 k hk.2 ho.1 hk.1
    · omega
theorem Pair.ref {w : World} (h : Pair P w gd M gr d r) : ∃ Q : Nat → Prop, (∀ k, Q k → ¬ P k) ∧ RHas Q w w gr r ∧ ∀ w' r', RHas Q w w' gr r' → Pair P w' gd M gr d r' ∧ PFrame P w w' := by
  obtain ⟨O, Q, E, h1, h2, h3, h4, h5, h6⟩ := h.rep
  have hQ : ∀ k, (Q k ∧ k < w.heap.size) ∨ w.heap.size ≤ k → ¬ P k := by
    rintro k (hk | hk) hp
    · exact h2 k hk.1 hp
    · have := h.hP k hp; omega
  refine ⟨fun k => (Q k ∧ k < w.heap.size) ∨ w.heap.size ≤ k, hQ, ⟨fun k hk => .inr hk, DFrame.refl _ _, h6.mono (fun k hk hlt => .inl ⟨hk, hlt⟩)⟩, fun w' r' hh => ?_⟩
  have hs := hh.frame.size
  refine ⟨⟨fun k hk => by have := h.hP k hk; omega, fun k => O k ∧ k < w.heap.size, _, E, fun k hk => h1 k hk.1, hQ, ?_, h4, ?_, hh.rep⟩, hh.frame.mono (fun k hk => hQ k hk)⟩
  · rintro k hlt ho (hk | hk)
    · exact h3 k ho.2 ho.1 hk.1
    · have := ho.2; omega
  · refine (h5.mono (O' := fun k => O k ∧ k < w.heap.size) (fun k hk hlt => ⟨hk, hlt⟩)).kept (fun k hk hlt => hh.frame.block k hlt ?_)
    rintro (ho | ho)
    · exact h3 k hk.2 hk.1 ho.1
    · omega
theorem Pair.rrep {w : World} (h : Pair P w gd M gr d r) : ∃ Q, RRep Q w gr r := by
  obtain ⟨O, Q, E, _, _, _, _, _, h6⟩ := h.rep
  exact ⟨Q, h6⟩
theorem namesOf {w : World} (h : Pair P w gd M gr d r) : ∃ O E, E.map nf = d.L ∧ DRep O w gd M d.room d.armed d.down E := by
  obtain ⟨O, Q, E, _, _, _, h4, h5, _⟩ := h.rep
  exact ⟨O, E, h4, h5⟩
/-! the disk's calls -/
theorem create_p {s : ByteArray} (hs : s.size ≤ 9223372036854775807) (w : World) (h : Pair P w gd M gr d r) (hE : d.L.length ≤ 100000) (ha : d.armed ≤ 9223372036854775807) :
    Calls Try.prog 11 #[.pointer (some ⟨gd, 0, none⟩), .string s] w fun x w' => x = .returned (.int .i64 (if mayS d false [s] = 0 then doN d.armed else mayS d false [s])) ∧ Pair P w' gd M gr (if mayS d false [s] = 0 then d.goes ((s, ⟨[], 0⟩) :: d.L) else d) r ∧ PFrame P w w' := by
  obtain ⟨O, _, h1, h2⟩ := h.disk
  exact (create_h (named_all s hs) hs w h1 hE ha).mono fun x w' hh => ⟨hh.1, h2 _ _ hh.2⟩
theorem sync_p {s : ByteArray} (hs : s.size ≤ 9223372036854775807) (w : World) (h : Pair P w gd M gr d r) (ha : d.armed ≤ 9223372036854775807) :
    Calls Try.prog 16 #[.pointer (some ⟨gd, 0, none⟩), .string s] w fun x w' => x = .returned (.int .i64 (if mayS d true [s] = 0 then doN d.armed else mayS d true [s])) ∧ Pair P w' gd M gr (if mayS d true [s] = 0 then d.goes (updL d.L s ⟨(getL d.L s).bytes, (getL d.L s).bytes.length⟩) else d) r ∧ PFrame P w w' := by
  obtain ⟨O, _, h1, h2⟩ := h.disk
  exact (sync_h (named_all s hs) hs w h1 ha).mono fun x w' hh => ⟨hh.1, h2 _ _ hh.2⟩
theorem remove_p {s : ByteArray} (hs : s.size ≤ 9223372036854775807) (w : World) (h : Pair P w gd M gr d r) (ha : d.armed ≤ 9223372036854775807) :
    Calls Try.prog 24 #[.pointer (some ⟨gd, 0, none⟩), .string s] w fun x w' => x = .returned (.int .i64 (if mayS d true [s] = 0 then doN d.armed else mayS d true [s])) ∧ Pair P w' gd M gr (if mayS d true [s] = 0 then d.goes (delL d.L s) else d) r ∧ PFrame P w w' := by
  obtain ⟨O, _, h1, h2⟩ := h.disk
  exact (remove_h (named_all s hs) hs w h1 ha).mono fun x w' hh => ⟨hh.1, h2 _ _ hh.2⟩
theorem rename_p {s t : ByteArray} (hs : s.size ≤ 9223372036854775807) (ht : t.size ≤ 9223372036854775807) (w : World) (h : Pair P w gd M gr d r) (hE : d.L.length ≤ 100000) (ha : d.armed ≤ 9223372036854775807) :
    Calls Try.prog 20 #[.pointer (some ⟨gd, 0, none⟩), .string s, .string t] w fun x w' => x = .returned (.int .i64 (if mayS d true [s, t] = 0 then doN d.armed else mayS d true [s, t])) ∧ Pair P w' gd M gr (if mayS d true [s, t] = 0 then d.goes ((t, getL d.L s) :: delL (delL d.L s) t) else d) r ∧ PFrame P w w' := by
  obtain ⟨O, _, h1, h2⟩ := h.disk
  exact (rename_h (named_all s hs) hs (named_all t ht) ht w h1 hE ha).mono fun x w' hh => ⟨hh.1, h2 _ _ hh.2⟩
theorem app_p {s : ByteArray} (hs : s.size ≤ 9223372036854775807) (B : Option Addr) (n cb : Nat) (bs : List Int) (w : World) (h : Pair P w gd M gr d r) (hnl : n = bs.length) (hC : Kd.C kByt w B bs.length bs) (hcb : bs.length ≤ cb) (hl : bs.length ≤ 1000000) (hr : 0 ≤ d.room) (hr' : d.room ≤ 1000000) (ht : totalL d.L ≤ 1000000) (ha : d.armed ≤ 9223372036854775807) :
    Calls Try.prog 12 #[.pointer (some ⟨gd, 0, none⟩), .string s, .slice B n cb] w fun x w' => x = .returned (.int .i64 (appN' d s bs.length)) ∧ Pair P w' gd M gr (appS d s bs) r ∧ PFrame P w w' := by
  obtain ⟨O, _, h1, h2⟩ := h.disk
  exact (app_h (named_all s hs) hs B n cb bs w h1 hnl hC hcb hl hr hr' ht ha).mono fun x w' hh => ⟨hh.1, h2 _ _ hh.2⟩
theorem arm_p (n : Int) (w : World) (h : Pair P w gd M gr d r) :
    Calls Try.prog 17 #[.pointer (some ⟨gd, 0, none⟩), .int .i64 n] w fun x w' => x = .returned (.tuple #[]) ∧ Pair P w' gd M gr { d with armed := max n (-1) } r ∧ PFrame P w w' := by
  obtain ⟨O, _, h1, h2⟩ := h.disk
  exact (arm_h n w h1).mono fun x w' hh => ⟨hh.1, h2 _ _ hh.2⟩
theorem down_p (w : World) (h : Pair P w gd M gr d r) : Calls Try.prog 18 #[.pointer (some ⟨gd, 0, none⟩)] w fun x w' => x = .returned (.bool d.down) ∧ w' = w := by
  obtain ⟨O, _, h1, h2⟩ := h.disk
  exact down_h w h1
theorem free_p (w : World) (h : Pair P w gd M gr d r) (hr : 0 ≤ d.room) (hr' : d.room ≤ 1000000) (ht : totalL d.L ≤ 1000000) :
    Calls Try.prog 14 #[.pointer (some ⟨gd, 0, none⟩)] w fun x w' => x = .returned (.int .i64 (d.room - (totalL d.L : Int))) ∧ Below w.heap.size w w' := by
  obtain ⟨O, _, h1, h2⟩ := h.disk
  exact (free_h w h1 hr hr' ht).mono fun x w' hh => ⟨hh.1, hh.2.2⟩
theorem read_p {s : ByteArray} (hs : s.size ≤ 9223372036854775807) (w : World) (h : Pair P w gd M gr d r) (hm : mayS d true [s] = 0) (ht : totalL d.L ≤ 1000000) :
    Calls Try.prog 13 #[.pointer (some ⟨gd, 0, none⟩), .string s] w fun x w' => ReadTell w (getL d.L s).bytes x w' := by
  obtain ⟨O, _, h1, h2⟩ := h.disk
  exact (read_h (named_all s hs) hs w h1 hm ht).mono fun x w' hh => hh.2
theorem read_q {s : ByteArray} (hs : s.size ≤ 9223372036854775807) (w : World) (h : Pair P w gd M gr d r) (hm : mayS d true [s] ≠ 0) :
    Calls Try.prog 13 #[.pointer (some ⟨gd, 0, none⟩), .string s] w fun x w' => x = .returned (.tuple #[.slice none 0 0, .int .i64 (mayS d true [s])]) ∧ Below w.heap.size w w' := by
  obtain ⟨O, _, h1, h2⟩ := h.disk
  exact (read_no (named_all s hs) hs w h1 hm).mono fun x w' hh => ⟨hh.1, hh.2.2⟩
theorem list_p (w : World) (h : Pair P w gd M gr d r) (hd : d.down = false) (hE : d.L.length ≤ 100000) :
    Calls Try.prog 25 #[.pointer (some ⟨gd, 0, none⟩)] w (ListTell w (namesD d.L)) := by
  obtain ⟨O, E, h1, h2⟩ := namesOf h
  rw [hd] at h2
  have h3 := list_calls O gd M d.room d.armed E (by rw [← List.length_map (f := nf), h1]; exact hE) w h2
  have h4 : E.map (fun e => e.name.data.toList) = d.L.map (fun p => p.1.data.toList) := by rw [← h1, List.map_map]; rfl
  rw [h4] at h3
  exact h3
theorem up_p (keep : List Int) (kA : Option Addr) (kc : Nat) (w : World) (h : Pair P w gd M gr d r) (hl : Like d r) (hn : d.L.length ≤ 100000) (hd : d.down = true) (hK : kI64.C w kA keep.length keep) (hkP : 0 < keep.length → ∀ ad, kA = some ad → P ad.block) (hkl : ∀ i, -9223372036854775808 ≤ keepAt keep i ∧ keepAt keep i ≤ 9223372036854775807) :
    Calls Try.prog 19 #[.pointer (some ⟨gd, 0, none⟩), .slice kA keep.length kc] w fun x w' => x = .returned (.tuple #[]) ∧ Pair P w' gd M gr { d with armed := -1, down := false, L := upD keep d.L } r ∧ PFrame P w w' := by
  obtain ⟨O, hO, h1, h2⟩ := h.disk
  obtain ⟨E, e1, e2⟩ := h1.rep
  rw [hd] at e2
  have ht := like_total hl
  have hf := hl.fits
  have hr := hl.r1
  have htE : totalE E = totalL d.L := by rw [← totalL_nf, e1]
  have hmem : ∀ e ∈ E, ∃ f ∈ r.L, nf e = toD f := by
    intro e he
    have : nf e ∈ d.L := by rw [← e1]; exact List.mem_map.2 ⟨e, he, rfl⟩
    obtain ⟨f, hf, hfe⟩ := List.mem_map.1 (hl.perm.mem_iff.1 this)
    exact ⟨f, hf, hfe.symm⟩
  refine (up_many O gd M d.room d.armed E keep kA kc w e2 (by rw [← List.length_map (f := nf), e1]; exact hn) hK (fun h0 ad he ho => hO _ ho (hkP h0 ad he)) hkl ?_ ?_ ?_ h1.hB).mono ?_
  · intro e he
    obtain ⟨f, hf, hfe⟩ := hmem e he
    have h3 : e.name = f.name := congrArg (·.1) hfe
    have h4 := hl.named f hf
    rw [h3]
    unfold namedB at h4
    simp only [Bool.and_eq_true, decide_eq_true_eq] at h4
    omega
  · intro e he
    obtain ⟨f, hf, hfe⟩ := hmem e he
    have h3 : e.file = (toD f).2 := congrArg (·.2) hfe
    rw [h3]
    show f.kept.size ≤ (nums (f.kept ++ f.loose)).length
    rw [nums_len, ByteArray.size_append]
    omega
  · intro e he
    have := total_ge he
    omega
  · rintro x w' ⟨rfl, k1, k2⟩
    refine ⟨rfl, h2 _ _ ⟨fun k hk => h1.hB k (by have := k2.size; omega), k2, _, ?_, k1⟩⟩
    have hN : sortN (E.map keyB) = namesD d.L := by unfold namesD; rw [← e1, List.map_map]; rfl
    show (upK keep (sortN (E.map keyB)) E E.length).map nf = upD keep d.L
    rw [hN]
    unfold upK upD
    rw [← e1, List.map_map, List.map_map, e1]
    refine List.map_congr_left fun e he => ?_
    have hlt : (namesD d.L).idxOf (keyB e) < E.length := by
      have h5 : (namesD d.L).Perm (E.map keyB) := by rw [← hN]; exact List.mergeSort_perm _ _
      have h6 : keyB e ∈ namesD d.L := h5.mem_iff.2 (List.mem_map.2 ⟨e, he, rfl⟩)
      have h7 := List.idxOf_lt_length_of_mem h6
      rw [h5.length_eq, List.length_map] at h7
      exact h7
    show nf (if (namesD d.L).idxOf (keyB e) < E.length then setF e (upFile (keepAt keep ((namesD d.L).idxOf (keyB e))) e.file) else e) = _
    rw [if_pos hlt]
    rfl
theorem up_q (kA : Option Addr) (kn kc : Nat) (w : World) (h : Pair P w gd M gr d r) (hd : d.down = false) :
    Calls Try.prog 19 #[.pointer (some ⟨gd, 0, none⟩), .slice kA kn kc] w fun x w' => x = .returned (.tuple #[]) ∧ w' = w := by
  obtain ⟨O, E, h1, h2⟩ := namesOf h
  rw [hd] at h2
  have k3 := h2.c3
  clear h2 h1 hd h
  go_enter Try.func19, Try.ntmps19
  go_wp2
  exact bodyPost_ret (v := .tuple #[]) (by simp [results, Try.results19, go_sem]) rfl ⟨rfl, rfl⟩
end Go.Proofs.Ytbndgnbhmifefaa
namespace Go.Proofs.Ytbndgnbhmifefaa
open Go.RowKit Go.Proofs.YtbndgnbhmifefaaW.PrintWords Go.Proofs.YtbndgnbhmifefaaW.PrintMore
set_option linter.unusedVariables false
set_option linter.unusedSimpArgs false
variable {P : Nat → Prop} {gd M gr : Nat} {d : DS} {r : RS}
/-- the two are alike, with at most n files -/
def Next (P : Nat → Prop) (w0 w : World) (gd M gr n : Nat) : Prop := PFrame P w0 w ∧ ∃ d r, Pair P w gd M gr d r ∧ Like d r ∧ r.L.length ≤ n
theorem next_mk {w0 w : World} {n : Nat} {d' : DS} {r' : RS} (h : Pair P w gd M gr d' r' ∧ PFrame P w0 w) (hl : Like d' r') (hn : r'.L.length ≤ n) : Next P w0 w gd M gr n := ⟨h.2, d', r', h.1, hl, hn⟩
theorem like_len {d : DS} {r : RS} (h : Like d r) : d.L.length = r.L.length := by rw [h.perm.length_eq, List.length_map]
theorem rd0 (s : ByteArray) : rdS [s] 0 = s := rfl
theorem rd02 (s t : ByteArray) : rdS [s, t] 0 = s := rfl
theorem may1 {d : DS} {r : RS} (h : Like d r) (there : Bool) (s : ByteArray) : mayS d there [s] = mayN r.gone there (badB [s]) (hasR r.L s) := by rw [h.may, rd0]
theorem may2 {d : DS} {r : RS} (h : Like d r) (there : Bool) (s t : ByteArray) : mayS d there [s, t] = mayN r.gone there (badB [s, t]) (hasR r.L s) := by rw [h.may, rd02]
theorem bytes_le {d : DS} {r : RS} (h : Like d r) : bytesR r.L ≤ 1000000 := by have := h.fits; have := h.r1; omega
theorem goes_d {d : DS} (L1 L2 : DList) (h : d.armed = 0) : d.goes L1 = d.goes L2 := by unfold DS.goes; rw [if_pos h, if_pos h]
theorem named_of_bad {s : ByteArray} (h : badB [s] = false) : namedB s = true := by rw [bad1] at h; simpa using h
theorem mayN_0 {gone there bad is : Bool} (h : mayN gone there bad is = 0) : gone = false ∧ bad = false ∧ is = there := by
  cases gone <;> cases bad <;> cases is <;> cases there <;> first | exact ⟨rfl, rfl, rfl⟩ | (exact absurd h (by decide))
theorem do_c_p {s : ByteArray} (hs : s.size ≤ 9223372036854775807) (w : World) (hl : Like d r) (hn : r.L.length ≤ 1000) (h : Pair P w gd M gr (if mayS d false [s] = 0 then d.goes ((s, ⟨[], 0⟩) :: d.L) else d) r) :
    Calls Try.prog 34 #[.pointer (some ⟨gr, 0, none⟩), .int .u8 99, .string s, .string ⟨#[]⟩, .string ⟨#[]⟩] w fun x w' => x = .returned (.int .i64 (if mayS d false [s] = 0 then doN d.armed else mayS d false [s])) ∧ Next P w w' gd M gr (r.L.length + 1) := by
  obtain ⟨Q, _, h1, h2⟩ := h.ref
  have hz : (⟨#[]⟩ : ByteArray).size ≤ 9223372036854775807 := by decide
  by_cases hm : mayS d false [s] = 0
  · rw [if_pos hm]
    rw [if_pos hm] at h2
    rw [may1 hl] at hm
    obtain ⟨hg, hb, hh⟩ := mayN_0 hm
    refine (rdo_c_ok Q w gr r s _ _ hs hz (by omega) hl.a1 hl.a0 hm w h1).mono ?_
    rintro x w' ⟨rfl, r', h3, h4⟩
    rw [hl.armed]
    refine ⟨rfl, ?_⟩
    by_cases ha : r.armed = 0
    · rw [if_pos ha] at h4
      subst h4
      exact next_mk (h2 _ _ h3) (hl.down ha _) (by show r.L.length ≤ _; omega)
    · rw [if_neg ha] at h4
      obtain ⟨k, hk, rfl⟩ := h4
      exact next_mk (h2 _ _ h3) (like_create hl ha (named_of_bad hb) hh hk) (by have := hk.le; simp; omega)
  · rw [if_neg hm]
    rw [if_neg hm] at h2
    rw [may1 hl] at hm ⊢
    refine (rdo_c_err Q w gr r s _ _ hs hz (by omega) hl.a1 hl.a0 hm w h1).mono ?_
    rintro x w' ⟨rfl, h3⟩
    exact ⟨rfl, next_mk (h2 _ _ h3) hl (by omega)⟩
theorem do_r_p {s : ByteArray} (hs : s.size ≤ 9223372036854775807) (w : World) (hl : Like d r) (hn : r.L.length ≤ 1000) (h : Pair P w gd M gr (if mayS d true [s] = 0 then d.goes (delL d.L s) else d) r) :
    Calls Try.prog 34 #[.pointer (some ⟨gr, 0, none⟩), .int .u8 114, .string s, .string ⟨#[]⟩, .string ⟨#[]⟩] w fun x w' => x = .returned (.int .i64 (if mayS d true [s] = 0 then doN d.armed else mayS d true [s])) ∧ Next P w w' gd M gr (r.L.length + 1) := by
  obtain ⟨Q, _, h1, h2⟩ := h.ref
  have hz : (⟨#[]⟩ : ByteArray).size ≤ 9223372036854775807 := by decide
  by_cases hm : mayS d true [s] = 0
  · rw [if_pos hm]
    rw [if_pos hm] at h2
    rw [may1 hl] at hm
    refine (rdo_r_ok Q w gr r s _ _ hs hz (by omega) hl.a1 hl.a0 hm w h1).mono ?_
    rintro x w' ⟨rfl, r', h3, h4⟩
    rw [hl.armed]
    refine ⟨rfl, ?_⟩
    by_cases ha : r.armed = 0
    · rw [if_pos ha] at h4
      subst h4
      exact next_mk (h2 _ _ h3) (hl.down ha _) (by show r.L.length ≤ _; omega)
    · rw [if_neg ha] at h4
      obtain ⟨k, hk, hks, rfl⟩ := h4
      exact next_mk (h2 _ _ h3) (like_remove hl ha hk hks) (by simp; omega)
  · rw [if_neg hm]
    rw [if_neg hm] at h2
    rw [may1 hl] at hm ⊢
    refine (rdo_r_err Q w gr r s _ _ hs hz (by omega) hl.a1 hl.a0 hm w h1).mono ?_
    rintro x w' ⟨rfl, h3⟩
    exact ⟨rfl, next_mk (h2 _ _ h3) hl (by omega)⟩
theorem do_s_p {s : ByteArray} (hs : s.size ≤ 9223372036854775807) (w : World) (hl : Like d r) (hn : r.L.length ≤ 1000) (h : Pair P w gd M gr (if mayS d true [s] = 0 then d.goes (updL d.L s ⟨(getL d.L s).bytes, (getL d.L s).bytes.length⟩) else d) r) :
    Calls Try.prog 34 #[.pointer (some ⟨gr, 0, none⟩), .int .u8 115, .string s, .string ⟨#[]⟩, .string ⟨#[]⟩] w fun x w' => x = .returned (.int .i64 (if mayS d true [s] = 0 then doN d.armed else mayS d true [s])) ∧ Next P w w' gd M gr (r.L.length + 1) := by
  obtain ⟨Q, _, h1, h2⟩ := h.ref
  have hz : (⟨#[]⟩ : ByteArray).size ≤ 9223372036854775807 := by decide
  by_cases hm : mayS d true [s] = 0
  · rw [if_pos hm]
    rw [if_pos hm] at h2
    rw [may1 hl] at hm
    refine (rdo_s_ok Q w gr r s _ _ hs hz (by omega) hl.a1 hl.a0 (bytes_le hl) (by decide) hm w h1).mono ?_
    rintro x w' ⟨rfl, r', h3, h4⟩
    rw [hl.armed]
    refine ⟨rfl, ?_⟩
    by_cases ha : r.armed = 0
    · rw [if_pos ha] at h4
      subst h4
      exact next_mk (h2 _ _ h3) (hl.down ha _) (by show r.L.length ≤ _; omega)
    · rw [if_neg ha] at h4
      obtain ⟨k, hk, hks, rfl⟩ := h4
      exact next_mk (h2 _ _ h3) (like_sync hl ha hk hks) (by simp)
  · rw [if_neg hm]
    rw [if_neg hm] at h2
    rw [may1 hl] at hm ⊢
    refine (rdo_s_err Q w gr r s _ _ hs hz (by omega) hl.a1 hl.a0 hm w h1).mono ?_
    rintro x w' ⟨rfl, h3⟩
    exact ⟨rfl, next_mk (h2 _ _ h3) hl (by omega)⟩
theorem do_n_p {s t : ByteArray} (hs : s.size ≤ 9223372036854775807) (ht : t.size ≤ 9223372036854775807) (w : World) (hl : Like d r) (hn : r.L.length ≤ 1000) (h : Pair P w gd M gr (if mayS d true [s, t] = 0 then d.goes ((t, getL d.L s) :: delL (delL d.L s) t) else d) r) :
    Calls Try.prog 34 #[.pointer (some ⟨gr, 0, none⟩), .int .u8 110, .string s, .string t, .string ⟨#[]⟩] w fun x w' => x = .returned (.int .i64 (if mayS d true [s, t] = 0 then doN d.armed else mayS d true [s, t])) ∧ Next P w w' gd M gr (r.L.length + 1) := by
  obtain ⟨Q, _, h1, h2⟩ := h.ref
  by_cases hm : mayS d true [s, t] = 0
  · rw [if_pos hm]
    rw [if_pos hm] at h2
    rw [may2 hl] at hm
    obtain ⟨hg, hb, hh⟩ := mayN_0 hm
    have hnt : namedB t = true := by rw [bad2] at hb; simp at hb; exact hb.2
    refine (rdo_n_ok Q w gr r s t _ hs ht (by omega) hl.a1 hl.a0 hm w h1).mono ?_
    rintro x w' ⟨rfl, r', h3, h4⟩
    rw [hl.armed]
    refine ⟨rfl, ?_⟩
    by_cases ha : r.armed = 0
    · rw [if_pos ha] at h4
      subst h4
      exact next_mk (h2 _ _ h3) (hl.down ha _) (by show r.L.length ≤ _; omega)
    · rw [if_neg ha] at h4
      obtain ⟨k, j, L2, L3, hk, hks, e2, e3, hp, rfl⟩ := h4
      refine next_mk (h2 _ _ h3) (like_rename hl ha hnt hk hks e2 e3 hp) ?_
      have l2 : L2.length ≤ r.L.length := by rw [e2]; simp; omega
      have l3 : L3.length ≤ L2.length := by
        rcases e3 with ⟨_, e3⟩ | ⟨m, hm, _, e3⟩
        · rw [e3]; omega
        · rw [e3]; simp; omega
      have := hp.le
      simp
      omega
  · rw [if_neg hm]
    rw [if_neg hm] at h2
    rw [may2 hl] at hm ⊢
    refine (rdo_n_err Q w gr r s t _ hs ht (by omega) hl.a1 hl.a0 hm w h1).mono ?_
    rintro x w' ⟨rfl, h3⟩
    exact ⟨rfl, next_mk (h2 _ _ h3) hl (by omega)⟩
theorem do_a_p {s b : ByteArray} (hs : s.size ≤ 9223372036854775807) (hbs : b.size ≤ 1000000) (w : World) (hl : Like d r) (hn : r.L.length ≤ 1000) (h : Pair P w gd M gr (appS d s (nums b)) r) :
    Calls Try.prog 34 #[.pointer (some ⟨gr, 0, none⟩), .int .u8 97, .string s, .string ⟨#[]⟩, .string b] w fun x w' => x = .returned (.int .i64 (appN' d s (nums b).length)) ∧ Next P w w' gd M gr (r.L.length + 1) := by
  obtain ⟨Q, _, h1, h2⟩ := h.ref
  have hz : (⟨#[]⟩ : ByteArray).size ≤ 9223372036854775807 := by decide
  have ht := like_total hl
  unfold appS at h2
  unfold appN'
  rw [nums_len] at h2 ⊢
  rw [ht, hl.room] at h2 ⊢
  by_cases hm : mayS d true [s] = 0
  · rw [if_pos hm]
    rw [if_pos hm] at h2
    rw [may1 hl] at hm
    by_cases hf : r.room - (bytesR r.L : Int) < (b.size : Int)
    · rw [if_pos hf]
      rw [if_pos hf] at h2
      refine (rdo_a_full Q w gr r s _ b hs hz (by omega) hl.a1 hl.a0 (bytes_le hl) hbs hl.r0 hl.r1 hf hm w h1).mono ?_
      rintro x w' ⟨rfl, h3⟩
      exact ⟨rfl, next_mk (h2 _ _ h3) hl (by omega)⟩
    · rw [if_neg hf]
      rw [if_neg hf] at h2
      refine (rdo_a_ok Q w gr r s _ b hs hz (by omega) hl.a1 hl.a0 (bytes_le hl) hbs hl.r0 hl.r1 (by omega) hm w h1).mono ?_
      rintro x w' ⟨rfl, r', k, h3, hk, hks, h4⟩
      rw [hl.armed]
      refine ⟨rfl, ?_⟩
      subst h4
      exact next_mk (h2 _ _ h3) (by have := like_append hl hk hks b (by omega); rw [hl.room] at this; exact this) (by split <;> simp)
  · rw [if_neg hm]
    rw [if_neg hm] at h2
    rw [may1 hl] at hm ⊢
    refine (rdo_a_err Q w gr r s _ b hs hz (by omega) hl.a1 hl.a0 hm w h1).mono ?_
    rintro x w' ⟨rfl, h3⟩
    exact ⟨rfl, next_mk (h2 _ _ h3) hl (by omega)⟩
theorem rarm_p (n : Int) (hn : n ≤ 9223372036854775807) (w : World) (hl : Like d r) (h : Pair P w gd M gr { d with armed := max n (-1) } r) :
    Calls Try.prog 35 #[.pointer (some ⟨gr, 0, none⟩), .int .i64 n] w fun x w' => x = .returned (.tuple #[]) ∧ Next P w w' gd M gr (r.L.length + 1) := by
  obtain ⟨Q, _, h1, h2⟩ := h.ref
  refine (rarm_calls Q w gr r n w h1).mono ?_
  rintro x w' ⟨rfl, h3⟩
  exact ⟨rfl, next_mk (h2 _ _ h3) (like_arm hl n hn) (by simp)⟩
theorem rup_p (keep : List Int) (kA : Option Addr) (kc : Nat) (w : World) (hl : Like d r) (hn : r.L.length ≤ 1000) (hd : r.gone = true) (hK : kI64.C w kA keep.length keep) (hkP : 0 < keep.length → ∀ ad, kA = some ad → P ad.block) (hkl : ∀ i, -9223372036854775808 ≤ keepAt keep i ∧ keepAt keep i ≤ 9223372036854775807) (h : Pair P w gd M gr { d with armed := -1, down := false, L := upD keep d.L } r) :
    Calls Try.prog 36 #[.pointer (some ⟨gr, 0, none⟩), .slice kA keep.length kc] w fun x w' => x = .returned (.tuple #[]) ∧ Next P w w' gd M gr (r.L.length + 1) := by
  obtain ⟨Q, hQ, h1, h2⟩ := h.ref
  refine (rup_gone Q w gr r kA kc keep (by omega) (bytes_le hl) hkl w h1 hd hK (fun h0 ad he ho => hQ _ ho (hkP h0 ad he))).mono ?_
  rintro x w' ⟨rfl, h3⟩
  exact ⟨rfl, next_mk (h2 _ _ h3) (like_up hl keep (fun i => (hkl i).1)) (by show (upL keep r.L).length ≤ _; rw [upL_len]; omega)⟩
theorem rup_q (kA : Option Addr) (kn kc : Nat) (w : World) (h : Pair P w gd M gr d r) (hd : r.gone = false) :
    Calls Try.prog 36 #[.pointer (some ⟨gr, 0, none⟩), .slice kA kn kc] w fun x w' => x = .returned (.tuple #[]) ∧ w' = w := by
  obtain ⟨Q, h1⟩ := h.rrep
  exact rup_idle gr r kA kn kc w h1 hd
theorem rfree_p (w : World) (h : Pair P w gd M gr d r) (hl : Like d r) :
    Calls Try.prog 38 #[.pointer (some ⟨gr, 0, none⟩)] w fun x w' => x = .returned (.int .i64 (d.room - (totalL d.L : Int))) ∧ Below w.heap.size w w' := by
  obtain ⟨Q, h1⟩ := h.rrep
  rw [like_total hl, hl.room]
  exact rfree_calls gr r w h1 hl.r0 hl.r1 (bytes_le hl)
theorem rread_p {s : ByteArray} (hs : s.size ≤ 9223372036854775807) (w : World) (h : Pair P w gd M gr d r) (hl : Like d r) (hm : mayS d true [s] = 0) :
    Calls Try.prog 37 #[.pointer (some ⟨gr, 0, none⟩), .string s] w fun x w' => Below w.heap.size w w' ∧ ∃ b : ByteArray, nums b = (getL d.L s).bytes ∧ x = .returned (.tuple #[.string b, .int .i64 0]) := by
  obtain ⟨Q, h1⟩ := h.rrep
  refine (rread_ok gr r s hs (bytes_le hl) w h1 (by rw [← may1 hl]; exact hm)).mono ?_
  rintro x w' ⟨hb, k, hk, hks, rfl⟩
  refine ⟨hb, _, ?_, rfl⟩
  rw [← hks, hl.get hk]
  rfl
theorem rread_q {s : ByteArray} (hs : s.size ≤ 9223372036854775807) (w : World) (h : Pair P w gd M gr d r) (hl : Like d r) (hm : mayS d true [s] ≠ 0) :
    Calls Try.prog 37 #[.pointer (some ⟨gr, 0, none⟩), .string s] w fun x w' => x = .returned (.tuple #[.string ⟨#[]⟩, .int .i64 (mayS d true [s])]) ∧ w' = w := by
  obtain ⟨Q, h1⟩ := h.rrep
  rw [may1 hl] at hm ⊢
  exact rread_err gr r s hs w h1 hm
end Go.Proofs.Ytbndgnbhmifefaa
