/- Up of a disk of any files (in work): one file's deed among others. -/
import Derived.Test.YtbndgnbhmifefaaDkListN
import Derived.Test.YtbndgnbhmifefaaDkUp
import Derived.Test.YtbndgnbhmifefaaRdUp
namespace Go.Proofs.Ytbndgnbhmifefaa
open Go.RowKit Go.Proofs.YtbndgnbhmifefaaW.PrintWords Go.Proofs.YtbndgnbhmifefaaW.PrintMore
set_option linter.unusedVariables false
set_option linter.unusedSimpArgs false
theorem updE_updE (E : List DEnt) (b : Nat) (f f' : DFile) : updE (updE E b f) b f' = updE E b f' := by
  unfold updE
  rw [List.map_map]
  refine List.map_congr_left fun x _ => ?_
  by_cases h : x.blk = b <;> simp [h]
theorem updE_in {E : List DEnt} {e : DEnt} (he : e ∈ E) (f : DFile) : setF e f ∈ updE E e.blk f := by
  unfold updE
  exact List.mem_map.2 ⟨e, he, by simp [setF]⟩
theorem up_fileN {O : Nat → Prop} {w w4 : World} {g M base : Nat} {room armed : Int} {down : Bool} {E : List DEnt} {e : DEnt} (h : DRep O w g M room armed down E) (he : e ∈ E) (hb4 : Below w.heap.size w w4) {A4 : Option Addr} {n c4 : Nat} {l : List Int} (hR : kByt.R 5 w4 base (fun _ => True) (.slice A4 n c4) l) (hbase : w.heap.size ≤ base) (hB : ∀ k, w.heap.size ≤ k → O k) :
    DRep O ((w4.setCell ⟨e.blk, 0, none⟩ (.slice A4 n c4)).setCell ⟨e.blk, 1, none⟩ (.int .i64 n)) g M room armed down (updE E e.blk ⟨l, n⟩) ∧ DFrame O w ((w4.setCell ⟨e.blk, 0, none⟩ (.slice A4 n c4)).setCell ⟨e.blk, 1, none⟩ (.int .i64 n)) := by
  obtain ⟨h1, h2⟩ := app_file h he hb4 hR hbase hB
  obtain ⟨h3, h4⟩ := kept_set h1 (e := setF e ⟨l, e.file.kept⟩) (updE_in he _) n
  rw [show (setF e ⟨l, e.file.kept⟩).blk = e.blk from rfl, updE_updE] at h3
  exact ⟨h3, h2.trans h4⟩
def keyB (e : DEnt) : List UInt8 := e.name.data.toList
def upFile (n : Int) (f : DFile) : DFile := ⟨f.bytes.take (upN n f.kept f.bytes.length), upN n f.kept f.bytes.length⟩
def upK (keep : List Int) (N : List (List UInt8)) (E : List DEnt) (k : Nat) : List DEnt := E.map (fun e => if N.idxOf (keyB e) < k then setF e (upFile (keepAt keep (N.idxOf (keyB e))) e.file) else e)
theorem keyB_inj {a b : DEnt} (h : keyB a = keyB b) : a.name = b.name := ByteArray.ext (Array.toList_inj.1 h)
theorem upK_zero (keep : List Int) (N : List (List UInt8)) (E : List DEnt) : upK keep N E 0 = E := by unfold upK; simp
theorem upK_in {keep : List Int} {N : List (List UInt8)} {E : List DEnt} {e : DEnt} {k : Nat} (he : e ∈ E) (hk : N.idxOf (keyB e) = k) : e ∈ upK keep N E k := by
  unfold upK
  exact List.mem_map.2 ⟨e, he, by rw [if_neg (by omega)]⟩
theorem upK_step {keep : List Int} {N : List (List UInt8)} {E : List DEnt} {e : DEnt} {k : Nat} (he : e ∈ E) (hk : N.idxOf (keyB e) = k) (hkN : k < N.length) (hn : (E.map (·.name)).Nodup) (hb : (E.map (·.blk)).Nodup) :
    updE (upK keep N E k) e.blk (upFile (keepAt keep k) e.file) = upK keep N E (k + 1) := by
  unfold updE upK
  rw [List.map_map]
  refine List.map_congr_left fun x hx => ?_
  by_cases hxe : x.blk = e.blk
  · have : x = e := nodup_inj hb hx he hxe
    subst this
    simp [hk, setF]
  · have hne : N.idxOf (keyB x) ≠ k := fun h => hxe (by
      have h1 : N[N.idxOf (keyB x)]'(by omega) = keyB x := List.getElem_idxOf _
      have h2 : N[N.idxOf (keyB e)]'(by omega) = keyB e := List.getElem_idxOf _
      have h3 : keyB x = keyB e := by rw [← h1, ← h2]; simp only [h, hk]
      rw [nodup_inj hn hx he (keyB_inj h3)])
    by_cases hlt : N.idxOf (keyB x) < k
    · have : N.idxOf (keyB x) < k + 1 := by omega
      simp [hlt, this, setF, hxe]
    · have : ¬ N.idxOf (keyB x) < k + 1 := by omega
      simp [hlt, this, hxe]
theorem upK_at {N : List (List UInt8)} {E : List DEnt} (hp : N.Perm (E.map keyB)) (hn : N.Nodup) {k : Nat} (hk : k < N.length) : ∃ e, e ∈ E ∧ keyB e = N[k] ∧ N.idxOf (keyB e) = k := by
  have h1 : N[k] ∈ E.map keyB := hp.mem_iff.1 (List.getElem_mem hk)
  obtain ⟨e, he, h2⟩ := List.mem_map.1 h1
  refine ⟨e, he, h2, ?_⟩
  rw [h2]
  exact hn.idxOf_getElem k hk
theorem row_form {w : World} {base : Nat} {v : Value} {N : List (List UInt8)} (ho : w.ownsRow base 9 1 v N.length (N.map encStr)) : ∃ A c, v = .slice A N.length c ∧ ∀ k (hk : k < N.length), ∃ ad, A = some ad ∧ base ≤ ad.block ∧ ad.block < w.heap.size ∧ w.cell? (ad.add k) = some (encStr N[k]) := by
  rcases ho.2 with ⟨h1, h0⟩ | ⟨g, cap, cur, rfl, hg, hgg, _, _, _, _⟩
  · refine ⟨none, 0, by rw [h0]; exact h1, fun k hk => by omega⟩
  · refine ⟨some ⟨g, 0, none⟩, cap, rfl, fun k hk => ⟨_, rfl, hg, (Array.getElem?_eq_some_iff.1 hgg).1, ?_⟩⟩
    exact ho.cells (g := g) rfl k _ (by rw [List.getElem?_map, List.getElem?_eq_getElem hk]; rfl)
theorem cell_lt {w : World} {p : Addr} {v : Value} (hc : w.cell? p = some v) : p.block < w.heap.size := by
  rcases Nat.lt_or_ge p.block w.heap.size with h1 | h1
  · exact h1
  · exfalso
    unfold World.cell? at hc
    rw [Array.getElem?_eq_none h1] at hc
    simp at hc
end Go.Proofs.Ytbndgnbhmifefaa
