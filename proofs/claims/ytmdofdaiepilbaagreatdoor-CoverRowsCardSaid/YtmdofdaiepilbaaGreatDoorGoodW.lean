/- The document's Good of works: works that may be, made of any. Conditions: the works read so. -/
import Derived.Test.YtmdofdaiepilbaaGreatDoorGEvAt
import Derived.Test.YtmdofdaiepilbaaGreatDoorRefKey
namespace Go.Proofs.YtmdofdaiepilbaaGreatDoor
open Go.RowKit Go.Proofs.YtmdofdaiepilbaaGreatDoorW.PrintWords
set_option linter.unusedVariables false
set_option linter.unusedSimpArgs false
/-- a work that may be; its key is that of an Int -/
def okWrk (x : Wrk) : Prop := nameB x.table = true ∧ (x.key = ⟨#[]⟩ ∨ (x.done = false ∧ ∃ n : Int, 0 ≤ n ∧ n < 9 ∧ x.key = keyS [⟨2, n, ⟨#[]⟩⟩]))
def goodW (l : List Wrk) : Prop := sortW l ∧ l.length ≤ 4 ∧ ∀ x ∈ l, okWrk x
theorem hasW_false {l : List Wrk} (hs : sortW l) {s : ByteArray} (hh : hasW l s = false) {k : Nat} (hk : posW l s ≤ k) (hl : k < l.length) : ltS s (rdWrk l k).table := by
  have h1 := posW_ge hs (s := s) (by omega)
  have hne : (rdWrk l (posW l s)).table ≠ s := fun h => by
    unfold hasW at hh
    rw [decide_eq_true (show posW l s < l.length by omega), decide_eq_true h] at hh
    cases hh
  have h2 := ltS_of_not h1 hne
  rcases Nat.lt_or_ge (posW l s) k with h3 | h3
  · exact ltS_trans h2 (sortW_lt hs h3 hl)
  · have : k = posW l s := by omega
    rw [this]; exact h2
theorem sortW_add {l : List Wrk} (hs : sortW l) {x : Wrk} (hh : hasW l x.table = false) : sortW (l.take (posW l x.table) ++ [x] ++ l.drop (posW l x.table)) := by
  have hple := posW_le l x.table
  unfold sortW at *
  rw [List.append_assoc, List.pairwise_append]
  refine ⟨hs.sublist (List.take_sublist _ _), ?_, ?_⟩
  · rw [List.singleton_append, List.pairwise_cons]
    refine ⟨fun b hb => ?_, hs.sublist (List.drop_sublist _ _)⟩
    obtain ⟨j, hj, rfl⟩ := List.mem_iff_getElem.1 hb
    rw [List.length_drop] at hj
    rw [List.getElem_drop, ← rdWrk_get (by omega)]
    exact hasW_false hs hh (by omega) (by omega)
  · intro a ha b hb
    obtain ⟨i, hi, rfl⟩ := List.mem_iff_getElem.1 ha
    rw [List.length_take] at hi
    rw [List.getElem_take, ← rdWrk_get (by omega)]
    rw [List.singleton_append, List.mem_cons] at hb
    rcases hb with rfl | hb
    · exact posW_lt hs (by omega)
    · obtain ⟨j, hj, rfl⟩ := List.mem_iff_getElem.1 hb
      rw [List.length_drop] at hj
      rw [List.getElem_drop, ← rdWrk_get (by omega)]
      exact sortW_lt hs (by omega) (by omega)
theorem len_add (l : List Wrk) (x : Wrk) (p : Nat) (hp : p ≤ l.length) : (l.take p ++ [x] ++ l.drop p).length = l.length + 1 := by
  simp only [List.length_append, List.length_take, List.length_drop, List.length_singleton]; omega
theorem rd_add (l : List Wrk) (x : Wrk) (p : Nat) (hp : p ≤ l.length) : rdWrk (l.take p ++ [x] ++ l.drop p) p = x := by
  unfold rdWrk
  have h : p - (l.take p).length = 0 := by rw [List.length_take]; omega
  rw [List.append_assoc, List.getD_eq_getElem?_getD, List.getElem?_append_right (by rw [List.length_take]; omega), h]
  rfl
theorem set_add (l : List Wrk) (x y : Wrk) (p : Nat) (hp : p ≤ l.length) : (l.take p ++ [x] ++ l.drop p).set p y = l.take p ++ [y] ++ l.drop p := by
  have h : (l.take p).length = p := by rw [List.length_take]; omega
  rw [List.append_assoc, List.append_assoc, List.set_append_right _ _ (by omega), h, Nat.sub_self]
  rfl
/-- where the one more stands -/
theorem at_add {l : List Wrk} (hs : sortW l) {x : Wrk} (hh : hasW l x.table = false) : atW (l.take (posW l x.table) ++ [x] ++ l.drop (posW l x.table)) x.table = (posW l x.table : Int) := by
  have hple := posW_le l x.table
  have h := atW_some (sortW_add hs hh) (s := x.table) (k := posW l x.table) (by rw [len_add _ _ _ hple]; omega) (by rw [rd_add _ _ _ hple])
  unfold atW
  rw [h.2, h.1]; rfl
theorem goodW_add {l : List Wrk} (hg : goodW l) (hl : l.length ≤ 3) {x : Wrk} (hx : okWrk x) (hh : hasW l x.table = false) : goodW (l.take (posW l x.table) ++ [x] ++ l.drop (posW l x.table)) := by
  refine ⟨sortW_add hg.1 hh, by rw [len_add _ _ _ (posW_le _ _)]; omega, fun y hy => ?_⟩
  rw [List.append_assoc, List.mem_append, List.singleton_append, List.mem_cons] at hy
  rcases hy with h | rfl | h
  · exact hg.2.2 _ (List.mem_of_mem_take h)
  · exact hx
  · exact hg.2.2 _ (List.mem_of_mem_drop h)
theorem mod9 (s : ByteArray) (h : 0 < s.size) : 0 ≤ (wrap64 (((s[0]'h).toNat : Nat) : Int)).tmod 9 ∧ (wrap64 (((s[0]'h).toNat : Nat) : Int)).tmod 9 < 9 := by
  have h1 := UInt8.toNat_lt (s[0]'h)
  generalize (s[0]'h).toNat = n at *
  have h2 : wrap64 (n : Int) = (n : Int) := by unfold wrap64; omega
  rw [h2, Int.tmod_eq_emod_of_nonneg (by omega)]
  omega
theorem valB_two (m : Int) : ∀ v ∈ [(⟨2, m, ⟨#[]⟩⟩ : Val)], valB v = true := fun v hv => by
  rw [List.mem_singleton] at hv
  subst hv
  simp [valB]
  try decide
theorem numOk_two (m : Int) (hm : 0 ≤ m ∧ m < 9) : numOk [(⟨2, m, ⟨#[]⟩⟩ : Val)] := fun v hv => by
  rw [List.mem_singleton] at hv
  subst hv
  unfold i64Ok
  simp only
  omega
def poolW : List ByteArray := [⟨#[116]⟩, ⟨#[117]⟩, ⟨#[118]⟩, ⟨#[119]⟩]
theorem poolW_name : ∀ k : Nat, k < 4 → nameB (poolW.getD k ⟨#[]⟩) = true := by decide
def GoodTell (w : World) (e : Ending) (w' : World) : Prop := ∃ v l, e = .returned v ∧ goodW l ∧ Own kWrk 47 w' w.heap.size v l ∧ Below w.heap.size w w'
/-- what the round begins with -/
structure GRound (w wr : World) (v : Value) (l : List Wrk) (k : Nat) : Prop where
  own : Own kWrk 47 wr w.heap.size v l
  good : goodW l
  few : l.length ≤ k
  bel : Below w.heap.size w wr
  pool : wr.heap[w.heap.size]? = some (.cells #[.string ⟨#[116]⟩, .string ⟨#[117]⟩, .string ⟨#[118]⟩, .string ⟨#[119]⟩] 9 (0, 0))
theorem GRound.step {w wr w1 : World} {v : Value} {l : List Wrk} {k : Nat} (h : GRound w wr v l k) (hb : Below wr.heap.size wr w1) : GRound w w1 v l k :=
  ⟨h.own.below hb, h.good, h.few, bmore h.bel hb, blk_below h.pool hb⟩
theorem GRound.more {w wr : World} {v : Value} {l : List Wrk} {k : Nat} (h : GRound w wr v l k) : GRound w wr v l (k + 1) := ⟨h.own, h.good, by have := h.few; omega, h.bel, h.pool⟩
theorem GRound.cell {w wr : World} {v : Value} {l : List Wrk} {k : Nat} (h : GRound w wr v l k) (hk : k < 4) : wr.cell? ⟨w.heap.size, k, none⟩ = some (.string (poolW.getD k ⟨#[]⟩)) := by
  have h1 := blk_cell h.pool k
  rw [h1]
  rcases k with _ | _ | _ | _ | k
  · rfl
  · rfl
  · rfl
  · rfl
  · omega
theorem nm_pool (k : Nat) (hk : k < 4) (nm : ByteArray) : nameB (if nameB nm then nm else poolW.getD k ⟨#[]⟩) = true := by
  cases h : nameB nm
  · simpa using poolW_name k hk
  · simpa using h
set_option maxRecDepth 100000 in
set_option maxHeartbeats 8000000 in
theorem goodW_calls (A : Option Addr) (c : Nat) (l : List Wrk) (w : World) (hC : kWrk.C w A l.length l) :
    Calls Tryz.prog 8 #[.slice A l.length c] w (GoodTell w) := by
  have hlen : l.length ≤ 9223372036854775807 := hC.2.1
  have HC := Aside0.mk hC
  clear hC
  go_enter Tryz.func8, Tryz.ntmps8
  go_upto_region 3 with fail
  have hG : GRound w (w.alloc (.cells #[.string ⟨#[116]⟩, .string ⟨#[117]⟩, .string ⟨#[118]⟩, .string ⟨#[119]⟩] 9)) (.slice none 0 0) [] 0 := ⟨Own.nil _ _ _ _, ⟨List.Pairwise.nil, by decide, fun x hx => by cases hx⟩, by simp, below_alloc (Below.refl _ _) _, heap_alloc_new _ _⟩
  generalize w.alloc (.cells #[.string ⟨#[116]⟩, .string ⟨#[117]⟩, .string ⟨#[118]⟩, .string ⟨#[119]⟩] 9) = W1 at *
  have HG := Aside0.mk hG
  clear hG
  go_wp2
  go_loopw [3, 5] (fun v i wr => ∃ (k : Nat) (gs : List Wrk), k ≤ l.length ∧ k ≤ 4 ∧ i = .int .i64 k ∧ GRound w wr v gs k) (fun _ i _ => 4 - (intOf i).toNat)
  case atStart => exact ⟨0, [], by omega, by omega, rfl, HG.out⟩
  case round =>
    clear HG
    obtain ⟨k, gs, hk, hk4, rfl, hR⟩ := hrel
    by_cases hlt : k < l.length ∧ k < 4
    case neg =>
      have HT : GoodTell w (.returned u3) wr := ⟨u3, gs, rfl, hR.good, hR.own, hR.bel⟩
      have HTT := Aside0.mk HT
      clear HT hR
      rcases (show k = l.length ∨ (k < l.length ∧ k = 4) by omega) with h | ⟨h, h4⟩
      · subst h
        go_wp2
        go_ret
        exact HTT.out
      · subst h4
        go_wp2
        go_ret
        exact HTT.out
    obtain ⟨hl, h4⟩ := hlt
    have hl' : ((k : Nat) : Int) < (l.length : Int) := by omega
    have h4' : ((k : Nat) : Int) < 4 := by omega
    obtain ⟨ad, rfl, d0, d1, d2⟩ := at_Wrk HC.out k hl
    have HD := Aside0.mk (fun (W : World) (hb : Below w.heap.size w W) => And.intro (pw_cell_below hb d0) (And.intro (pw_cell_below hb d1) (pw_cell_below hb d2)))
    clear d0 d1 d2
    obtain ⟨d0, d1, d2⟩ := HD.out wr hR.bel
    have pk := hR.cell h4
    have hpn := nm_pool k h4 (rdWrk l k).table
    have HNm := Aside0.mk (name04_calls (rdWrk l k).table)
    obtain ⟨B, cB, rfl, hcB, hCB⟩ := hR.own.slice
    have HA := Aside0.mk (fun (nm : ByteArray) => addW_calls B cB gs nm hR.good.1 (by have := hR.good.2.1; omega) hcB wr hCB)
    have HR := Aside0.mk hR
    clear hR hCB hcB
    generalize rdWrk l k = x at *
    obtain ⟨tb, dn, ky⟩ := x
    simp only at *
    generalize poolW.getD k ⟨#[]⟩ = pn at *
    obtain ⟨nm', hnm'⟩ : ∃ nm', (if nameB tb = true then tb else pn) = nm' := ⟨_, rfl⟩
    rw [hnm'] at hpn
    generalize hbn : nameB tb = bn at *
    have HX := Aside0.mk (HA.out nm')
    clear HA
    cases bn
    all_goals
      simp only [if_true, Bool.false_eq_true, if_false] at hnm'
      replace hnm' := hnm'.symm
      subst hnm'
      go_upto_region 11 with (first
        | (go_at_call 23; (with_reducible refine (HNm.out _).mono ?_); rintro e w1 ⟨rfl, hw1⟩; have hw2 := hw1.symm; clear hw1; subst hw2)
        | (go_at_call 24; (with_reducible refine (HX.out).mono ?_); rintro e w2 ⟨v2, rfl, hO2, hb2⟩))
      have HB2 := Aside0.mk hb2
      have HR2 := Aside0.mk (HR.out.step hb2)
      obtain ⟨e0, e1, e2⟩ := HD.out w2 (bmore HR.out.bel hb2)
      clear hb2 d0 d1 d2 pk
    all_goals
      have hE : addE gs nm' = if hasW gs nm' then 8 else 0 := by unfold addE; rw [hpn]; rfl
      cases hh : hasW gs nm'
      case true =>
        rw [hh] at hE
        simp only [if_true] at hE
        rw [hE]
        clear hO2 hE
        go_wp2
        go_roundw
        case rel => exact ⟨k + 1, gs, by omega, by omega, by go_num, HR2.out.more⟩
        case measure => simp [intOf]; omega
      rw [hh] at hE
      simp only [Bool.false_eq_true, if_false] at hE
      rw [hE] at hO2 ⊢
      rw [if_pos rfl] at hO2
      have hgl : gs.length ≤ 3 := by have := HR.out.few; omega
      have hln : (addW gs nm').length = gs.length + 1 := len_add _ _ _ (posW_le _ _)
      obtain ⟨g, cap, rfl, hgb, hgl2⟩ := hO2.form (by rw [hln]; omega)
      have hat : atW (addW gs nm') nm' = (posW gs nm' : Int) := at_add HR.out.good.1 (x := ⟨nm', false, ⟨#[]⟩⟩) hh
      have HAT := Aside0.mk (refAtW_calls (some ⟨g, 0, none⟩) cap (addW gs nm') nm' (sortW_add HR.out.good.1 (x := ⟨nm', false, ⟨#[]⟩⟩) hh) w2 (Kd.N_reads' hO2).2.2)
      rw [hat] at HAT
      have hple := posW_le gs nm'
      obtain ⟨y1, y2, z1, z2, hs1, hs2⟩ := hO2.wrk (posW gs nm') (by rw [hln]; omega)
      have HO2 := Aside0.mk hO2
      have HGood := Aside0.mk (fun (x : Wrk) (hx : okWrk x) (ht : x.table = nm') => (by subst ht; exact goodW_add HR.out.good hgl hx hh : goodW (gs.take (posW gs nm') ++ [x] ++ gs.drop (posW gs nm'))))
      have HSet := Aside0.mk (fun (y : Wrk) => set_add gs ⟨nm', false, ⟨#[]⟩⟩ y (posW gs nm') hple)
      have hrd : rdWrk (addW gs nm') (posW gs nm') = ⟨nm', false, ⟨#[]⟩⟩ := rd_add _ _ _ hple
      rw [hrd] at hs1
      change ∀ b : Bool, Own kWrk 47 (w2.setCell ⟨g, posW gs nm' * 3 + 1, none⟩ (.bool b)) wr.heap.size (.slice (some ⟨g, 0, none⟩) (addW gs nm').length cap) ((addW gs nm').set (posW gs nm') ⟨nm', b, ⟨#[]⟩⟩) at hs1
      have hs3 : ∀ b : Bool, Own kWrk 47 (w2.setCell ⟨g, posW gs nm' * 3 + 1, none⟩ (.bool b)) wr.heap.size (.slice (some ⟨g, 0, none⟩) (addW gs nm').length cap) (gs.take (posW gs nm') ++ [⟨nm', b, ⟨#[]⟩⟩] ++ gs.drop (posW gs nm')) := fun b => by have := hs1 b; rwa [show (addW gs nm').set (posW gs nm') ⟨nm', b, ⟨#[]⟩⟩ = _ from HSet.out _] at this
      clear hs1 hs2 hat hh hE hrd hO2
      have hpl : posW gs nm' < (addW gs nm').length := by omega
      have hpl' : ((posW gs nm' : Nat) : Int) < ((addW gs nm').length : Int) := by omega
      clear hln
      generalize (addW gs nm').length = n2 at *
      generalize posW gs nm' = p at *
      go_upto_region 14 with (go_at_call 16; (with_reducible refine (HAT.out).mono ?_); rintro e w3 ⟨rfl, hw3⟩; have hw4 := hw3.symm; clear hw3; subst hw4)
      go_upto_region 15 with fail
      have hO3 := hs3 dn
      have hb3 : Below w.heap.size w (w2.setCell ⟨g, p * 3 + 1, none⟩ (.bool dn)) := (HR2.out.bel).setCell (p := ⟨g, p * 3 + 1, none⟩) (by have := HR.out.bel.size; simp only; omega) (.bool dn)
      have hpool : (w2.setCell ⟨g, p * 3 + 1, none⟩ (.bool dn)).heap[w.heap.size]? = some (.cells #[.string ⟨#[116]⟩, .string ⟨#[117]⟩, .string ⟨#[118]⟩, .string ⟨#[119]⟩] 9 (0, 0)) := blk_far HR2.out.pool (by have := blk_lt HR.out.pool; simp only; omega) _
      have hz2 : (w2.setCell ⟨g, p * 3 + 1, none⟩ (.bool dn)).frozen? ⟨g, p * 3 + 2, none⟩ = false := by rw [World.frozen?_setCell]; exact z2
      have hsz3 : (w2.setCell ⟨g, p * 3 + 1, none⟩ (.bool dn)).heap.size = w2.heap.size := by simp
      generalize w2.setCell ⟨g, p * 3 + 1, none⟩ (.bool dn) = w3 at *
      have hgl3 : g < w3.heap.size := by omega
      clear hsz3
      obtain ⟨y1, y2, z1, z2, hs1, hs2⟩ := hO3.wrk p (by simp only [List.length_append, List.length_take, List.length_drop, List.length_singleton]; omega)
      have hrd : rdWrk (gs.take p ++ [(⟨nm', dn, ⟨#[]⟩⟩ : Wrk)] ++ gs.drop p) p = ⟨nm', dn, ⟨#[]⟩⟩ := rd_add _ _ _ hple
      have hst : ∀ y : Wrk, (gs.take p ++ [(⟨nm', dn, ⟨#[]⟩⟩ : Wrk)] ++ gs.drop p).set p y = gs.take p ++ [y] ++ gs.drop p := fun y => set_add gs ⟨nm', dn, ⟨#[]⟩⟩ y p hple
      rw [hrd] at hs2
      change ∀ b : ByteArray, Own kWrk 47 (w3.setCell ⟨g, p * 3 + 2, none⟩ (.string b)) wr.heap.size (.slice (some ⟨g, 0, none⟩) n2 cap) ((gs.take p ++ [(⟨nm', dn, ⟨#[]⟩⟩ : Wrk)] ++ gs.drop p).set p ⟨nm', dn, b⟩) at hs2
      have hlen1 : ∀ y : Wrk, (gs.take p ++ [y] ++ gs.drop p).length = gs.length + 1 := fun y => len_add _ _ _ hple
      have HR3 := Aside0.mk (GRound.mk (w := w) (wr := w3) (k := k + 1) (Own.lower hO3 HR.out.bel.size) (HGood.out ⟨nm', dn, ⟨#[]⟩⟩ ⟨hpn, .inl rfl⟩ rfl) (by rw [hlen1]; have := HR.out.few; omega) hb3 hpool)
      obtain ⟨f0, f1, f2⟩ := HD.out w3 hb3
      have HO3 := Aside0.mk hO3
      have HS2 := Aside0.mk (fun b => show Own kWrk 47 (w3.setCell ⟨g, p * 3 + 2, none⟩ (.string b)) wr.heap.size (.slice (some ⟨g, 0, none⟩) n2 cap) (gs.take p ++ [⟨nm', dn, b⟩] ++ gs.drop p) by have := hs2 b; rwa [hst] at this)
      have HPN := Aside0.mk hpn
      have HL1 := Aside0.mk hlen1
      have HB3 := Aside0.mk hb3
      have HP3 := Aside0.mk hpool
      clear hs1 hs2 hrd hst hs3 y1 y2 z1 e0 e1 e2 hO3 hb3 hpool hpn hlen1 hz2
      by_cases hkey : dn = false ∧ 0 < ky.size
      case neg =>
        have hq : dn = true ∨ (dn = false ∧ ky.size = 0) := by
          cases dn
          · right; exact ⟨rfl, by have : ¬ 0 < ky.size := fun h => hkey ⟨rfl, h⟩; omega⟩
          · left; rfl
        clear hkey
        rcases hq with rfl | ⟨rfl, hk0⟩
        all_goals
          go_wp2
          go_roundw
          case rel => exact ⟨k + 1, _, by omega, by omega, by go_num, HR3.out⟩
          case measure => simp [intOf]; omega
      obtain ⟨rfl, hkp⟩ := hkey
      have hkp' : ((ky.size : Nat) : Int) > 0 := by omega
      have hm := mod9 ky hkp
      obtain ⟨m, hmm⟩ : ∃ m, (wrap64 (((ky[0]'hkp).toNat : Nat) : Int)).tmod 9 = m := ⟨_, rfl⟩
      rw [hmm] at hm
      have hK := key03_calls (some ⟨w3.heap.size, 0, none⟩) 1 [⟨2, m, ⟨#[]⟩⟩] (w3.alloc (.cells #[.int .i64 2, .int .i64 m, .string ⟨#[]⟩] 75)) (C_one (heap_alloc_new _ _) (kVal_mk _ ⟨2, m, ⟨#[]⟩⟩)) (valB_two m) (numOk_two m hm) (by simp)
      have hb4 : Below w3.heap.size w3 (w3.alloc (.cells #[.int .i64 2, .int .i64 m, .string ⟨#[]⟩] 75)) := below_alloc (Below.refl _ _) _
      rw [← hmm] at hK hb4
      have HMM := Aside0.mk hmm
      clear hmm
      have HK := Aside0.mk hK
      have HB4 := Aside0.mk hb4
      have HM := Aside0.mk hm
      have HMk := Aside0.mk (fun (w5 : World) (hb : Below w3.heap.size w3 w5) => (HO3.out.below hb).wrk p (by rw [HL1.out]; omega))
      have HEnd : Aside0 (∀ w5, Below w3.heap.size w3 w5 → GRound w (w5.setCell ⟨g, p * 3 + 2, none⟩ (.string (keyS [⟨2, m, ⟨#[]⟩⟩]))) (.slice (some ⟨g, 0, none⟩) n2 cap) (gs.take p ++ [(⟨nm', false, keyS [⟨2, m, ⟨#[]⟩⟩]⟩ : Wrk)] ++ gs.drop p) (k + 1)) := ⟨fun w5 hb => by
        obtain ⟨_, _, _, _, _, hs2⟩ := HMk.out w5 hb
        have h1 := hs2 (keyS [⟨2, m, ⟨#[]⟩⟩])
        rw [show rdWrk (gs.take p ++ [(⟨nm', false, ⟨#[]⟩⟩ : Wrk)] ++ gs.drop p) p = ⟨nm', false, ⟨#[]⟩⟩ from rd_add _ _ _ hple, set_add _ _ _ _ hple] at h1
        refine ⟨Own.lower h1 HR.out.bel.size, HGood.out ⟨nm', false, keyS [⟨2, m, ⟨#[]⟩⟩]⟩ ⟨HPN.out, .inr ⟨rfl, m, HM.out.1, HM.out.2, rfl⟩⟩ rfl, by rw [HL1.out]; have := HR.out.few; omega, (bmore HB3.out hb).setCell (p := ⟨g, p * 3 + 2, none⟩) (by have := HR.out.bel.size; simp only; omega) _, blk_far (blk_below HP3.out hb) (by have := blk_lt HR.out.pool; simp only; omega) _⟩⟩
      clear hK hb4 hm

      go_upto_region 16 with fail
      go_wp2_with (go_at_call 25; (with_reducible_and_instances refine (HK.out).mono ?_); rintro e w5 ⟨rfl, hb5⟩; have HB5 := Aside0.mk (bmore HB4.out hb5); obtain ⟨t1, t2, t3, t4, _, _⟩ := HMk.out w5 HB5.out; clear hb5)
      go_roundw
      case rel => exact ⟨k + 1, _, by omega, by omega, by go_num, by rw [HMM.out]; exact HEnd.out _ HB5.out⟩
      case measure => simp [intOf]; omega
end Go.Proofs.YtmdofdaiepilbaaGreatDoor
