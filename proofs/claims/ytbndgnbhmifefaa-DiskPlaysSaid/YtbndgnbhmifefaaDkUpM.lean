/- Up of a disk of any files. Printed by gen_upn.py. -/
import Derived.Test.YtbndgnbhmifefaaDkUpN
import Derived.Test.YtbndgnbhmifefaaWLast
namespace Go.Proofs.Ytbndgnbhmifefaa
open Go.RowKit Go.Proofs.YtbndgnbhmifefaaW.PrintWords Go.Proofs.YtbndgnbhmifefaaW.PrintMore
open Go.Proofs.YtbndgnbhmifefaaW.PrintLast (start_ take_ one_ last_ done_ goes_)
set_option linter.unusedVariables false
set_option linter.unusedSimpArgs false
set_option maxRecDepth 100000 in
set_option maxHeartbeats 8000000 in
theorem up_many (O : Nat → Prop) (g M : Nat) (room armed : Int) (E : List DEnt) (keep : List Int) (kA : Option Addr) (kc : Nat) (w : World) (h : DRep O w g M room armed true E) (hE : E.length ≤ 100000) (hK : kI64.C w kA keep.length keep) (hkQ : 0 < keep.length → ∀ ad, kA = some ad → ¬ O ad.block) (hkl : ∀ i, -9223372036854775808 ≤ keepAt keep i ∧ keepAt keep i ≤ 9223372036854775807)
    (hs : ∀ e ∈ E, e.name.size ≤ 9223372036854775807) (hkept : ∀ e ∈ E, e.file.kept ≤ e.file.bytes.length) (hl : ∀ e ∈ E, e.file.bytes.length ≤ 1000000) (hB : ∀ k, w.heap.size ≤ k → O k) :
    Calls Try.prog 19 #[.pointer (some ⟨g, 0, none⟩), .slice kA keep.length kc] w fun x w' => x = .returned (.tuple #[]) ∧ DRep O w' g M room (-1) false (upK keep (sortN (E.map keyB)) E E.length) ∧ DFrame O w w' := by
  have k3 := h.c3
  have k2 := h.c2
  have f3 := h.free 3
  have f2 := h.free 2
  have HD := Aside0.mk (show DRep O ((w.setCell ⟨g, 3, none⟩ (.bool false)).setCell ⟨g, 2, none⟩ (.int .i64 (-1))) g M room (-1) false E ∧ DFrame O w ((w.setCell ⟨g, 3, none⟩ (.bool false)).setCell ⟨g, 2, none⟩ (.int .i64 (-1))) from
    ⟨DRep.cell (DRep.cell h 3 _ (by rfl)) 2 _ (by rfl), ((DFrame.refl _ _).set _ _ h.own.1).set _ _ h.own.1⟩)
  have HNm := Aside0.mk h.names
  have HBk := Aside0.mk h.blks
  have hperm : (sortN (E.map keyB)).Perm (E.map keyB) := List.mergeSort_perm _ _
  have HPm := Aside0.mk hperm
  have hnd : (E.map keyB).Nodup := by
    have h1 : E.map keyB = (E.map (·.name)).map (fun s => s.data.toList) := by rw [List.map_map]; rfl
    rw [h1]
    exact h.names.map _ (fun a b hab hq => hab (ByteArray.ext (Array.toList_inj.1 hq)))
  have HND := Aside0.mk (hperm.nodup_iff.2 hnd)
  have hNl : (sortN (E.map keyB)).length = E.length := by rw [hperm.length_eq, List.length_map]
  have HKp := Aside0.mk hK
  have HKQ := Aside0.mk hkQ
  have HLs := Aside0.mk (fun (W : World) (hW : DRep O W g M room (-1) false E) => list_calls O g M room (-1) E hE W hW)
  change Aside0 (∀ W, _ → Calls _ _ _ _ (ListTell W (sortN (E.map keyB)))) at HLs
  clear h hK hkQ hperm hnd
  generalize sortN (E.map keyB) = N at *
  rw [← hNl] at hE ⊢
  clear hNl
  go_enter Try.func19, Try.ntmps19
  go_upto_block 0 with (go_at_call 25; (with_reducible refine (HLs.out _ HD.out.1).mono ?_); rintro x w2 ⟨v, base, hbase, rfl, hrow, hb⟩; obtain ⟨LA, lc, rfl, hcells⟩ := row_form hrow)
  have HCe := Aside0.mk hcells
  obtain ⟨O', hO'⟩ : ∃ O' : Nat → Prop, O' = fun k => (O k ∧ k < w.heap.size) ∨ w2.heap.size ≤ k := ⟨_, rfl⟩
  have hsw : ((w.setCell ⟨g, 3, none⟩ (.bool false)).setCell ⟨g, 2, none⟩ (.int .i64 (-1))).heap.size = w.heap.size := by simp [World.setCell]
  have hsz2 : w.heap.size ≤ w2.heap.size := by have := hb.size; omega
  have HW2 := Aside0.mk (show DRep O' w2 g M room (-1) false E from (HD.out.1.mono (O' := O') (fun k hk hlt => by rw [hO']; exact .inl ⟨hk, by omega⟩)).below hb)
  have HF2 := Aside0.mk (HD.out.2.trans (DFrame.of hb))
  have HOO := Aside0.mk (show ∀ k, O' k → O k from fun k hk => by rw [hO'] at hk; rcases hk with hk | hk; exact hk.1; exact hB k (by omega))
  have HB' := Aside0.mk (show ∀ k, w2.heap.size ≤ k → O' k from fun k hk => by rw [hO']; exact .inr hk)
  have HNO := Aside0.mk (show ∀ k, w.heap.size ≤ k → k < w2.heap.size → ¬ O' k from fun k h1 h2 hk => by rw [hO'] at hk; rcases hk with hk | hk <;> omega)
  have HNK := Aside0.mk (show ∀ k, ¬ O k → k < w.heap.size → ¬ O' k from fun k h1 h2 hk => by rw [hO'] at hk; rcases hk with hk | hk; exact h1 hk.1; omega)
  have HBase := Aside0.mk (show w.heap.size ≤ base by omega)
  clear hrow hcells hb HD k2 k3 f2 f3 hO' hsw hbase hB
  go_wp2_with fail
  go_loopw [22] (fun i wr => ∃ k : Nat, i = .int .i64 k ∧ k ≤ N.length ∧ DRep O' wr g M room (-1) false (upK keep N E k) ∧ DFrame O' w2 wr) (fun i _ => N.length - (intOf i).toNat)
  case atStart => exact ⟨0, rfl, by omega, by rw [upK_zero]; exact HW2.out, DFrame.refl _ _⟩
  case round =>
    obtain ⟨k, rfl, hk, hR, hfr⟩ := hrel
    have HR := Aside0.mk hR
    have HFW := Aside0.mk hfr
    clear hR hfr
    by_cases hlt : k < N.length
    case neg =>
      obtain rfl : k = N.length := by omega
      go_wp2_with fail
      go_end0
      exact ⟨rfl, HR.out.mono (fun k hk _ => HOO.out k hk), HF2.out.trans (HFW.out.mono HOO.out)⟩
    obtain ⟨ad, eA, hb1, hb2, hc0⟩ := HCe.out k hlt
    subst eA
    obtain ⟨e, he, hek, hei⟩ := upK_at HPm.out HND.out hlt
    have hen : encStr N[k] = .string e.name := by rw [← hek]; rfl
    rw [hen] at hc0
    have hc1 := HFW.out.cellAt (by rw [add_blk]; exact HNO.out _ (by have := HBase.out; omega) hb2) hc0
    have hj0 : (0 : Int) ≤ (k : Int) := by omega
    have hj1 : (k : Int) < (N.length : Int) := by omega
    have k1 := HR.out.c1
    have hl2 := HR.out.lookP (W' := wr) (upK_in he hei) (hs e he) rfl
    unfold ptrV at hl2
    clear hc0 hen
    go_upto_if 36 with fail
    go_cut [7] (fun v w' => wr = w' ∧ v = .int .i64 (keepAt keep k))
    case first =>
      by_cases hkk : k < keep.length
      · obtain ⟨kd, e1, h3⟩ := HKp.out.2.2 (by omega)
        subst e1
        obtain ⟨cs, _, hcs, hc3⟩ := h3 k _ (List.getElem?_eq_getElem hkk)
        obtain rfl : cs = [.int .i64 keep[k]] := hcs
        have hq0 : w.cell? (kd.add (k * 1 + 0)) = some (.int .i64 keep[k]) := hc3 0 _ rfl
        rw [Nat.mul_one, Nat.add_zero] at hq0
        have hz : keepAt keep k = keep[k] := by unfold keepAt; simp [List.getD_eq_getElem?_getD, hkk]
        rw [← hz] at hq0
        have hkb := cell_lt hq0
        rw [add_blk] at hkb
        have hq1 := HFW.out.cellAt (by rw [add_blk]; exact HNK.out _ (HKQ.out (by omega) kd rfl) hkb) (HF2.out.cellAt (by rw [add_blk]; exact HKQ.out (by omega) kd rfl) hq0)
        have hl2' : decide ((k : Int) < (keep.length : Int)) = true := decide_eq_true (by omega)
        have hl3 : (k : Int) < (keep.length : Int) := by omega
        clear hz hq0 hc3 h3
        go_wp2_with fail
        go_meet
        case rel => exact ⟨rfl, rfl⟩
      · have hz : keepAt keep k = 0 := by unfold keepAt; simp [List.getD_eq_getElem?_getD, List.getElem?_eq_none (by omega : keep.length ≤ k)]
        have hl2' : decide ((k : Int) < (keep.length : Int)) = false := decide_eq_false (by omega)
        go_wp2_with fail
        go_meet
        case rel => exact ⟨rfl, by rw [hz]⟩
    obtain ⟨rfl, rfl⟩ := hcut
    have hn1 := (hkl k).1
    have hn2 := (hkl k).2
    generalize hkn : keepAt keep k = n at *
    go_upto_if 42 with fail
    go_cut [7] (fun v w' => wr = w' ∧ v = .int .i64 (upP n))
    case first =>
      by_cases hneg : n < 0
      · have hu : upP n = -(n + 1) := by unfold upP; rw [if_pos hneg]
        have hw1 : IntKind.i64.wrap (n + 1) = n + 1 := by rw [IntKind.wrap_i64]; omega
        have hw2 : IntKind.i64.wrap (-(n + 1)) = -(n + 1) := by rw [IntKind.wrap_i64]; omega
        have hd : decide (n < 0) = true := decide_eq_true hneg
        go_wp2_with fail
        go_meet
        case rel => exact ⟨rfl, by rw [hu]⟩
      · have hu : upP n = n := by unfold upP; rw [if_neg hneg]
        have hd : decide (n < 0) = false := decide_eq_false hneg
        go_wp2_with fail
        go_meet
        case rel => exact ⟨rfl, by rw [hu]⟩
    obtain ⟨rfl, rfl⟩ := hcut
    go_upto_region 11 with fail
    have heK := upK_in (keep := keep) he hei
    obtain ⟨A, c, hb2', hc2, hF⟩ := HR.out.files e heK
    have HFt := Aside0.mk hF
    have g0 := cell_of_row wr _ 0 _ _ _ hb2'
    have g1 := cell_of_row wr _ 1 _ _ _ hb2'
    have z0 := frozen_of_row wr e.blk 0 _ _ hb2'
    have z1 := frozen_of_row wr e.blk 1 _ _ hb2'
    have hkept' := hkept e he
    have hlen' := hl e he
    have hmB := upN_le hn1 hkept'
    have HCl := Aside0.mk (fun (W : World) (hW : Below wr.heap.size wr W) => clone_calls A (upN n e.file.kept e.file.bytes.length) c (e.file.bytes.take (upN n e.file.kept e.file.bytes.length)) W (by have := Kd.F_now (Kd.F_below (Kd.F_take HFt.out hmB.2) hW); rwa [List.length_take, Nat.min_eq_left hmB.2] at this) (by omega))
    have hszr : w2.heap.size ≤ wr.heap.size := HFW.out.size
    have HM := Aside0.mk (fun (w4 : World) (hb4 : Below wr.heap.size wr w4) base A4 n4 c4 l (hR : kByt.R 5 w4 base (fun _ => True) (.slice A4 n4 c4) l) (hbase : wr.heap.size ≤ base) => up_fileN HR.out heK hb4 hR hbase (fun k hk => HB'.out k (by omega)))
    have HST := Aside0.mk (upK_step (keep := keep) he hei hlt HNm.out HBk.out)
    have HUF := Aside0.mk (show upFile (keepAt keep k) e.file = ⟨e.file.bytes.take (upN n e.file.kept e.file.bytes.length), upN n e.file.kept e.file.bytes.length⟩ by unfold upFile; rw [hkn])
    rw [HUF.out] at HST
    have HBl := Aside0.mk hb2'
    clear hb2' hF heK
    have hP : 0 ≤ upP n := by unfold upP; split <;> omega
    obtain ⟨r, htm, hsum⟩ := rem_eq (upP n) hP e.file.kept e.file.bytes.length hkept'
    have hm0 : upN n e.file.kept e.file.bytes.length = e.file.kept + (upP n % ((e.file.bytes.length - e.file.kept + 1 : Nat) : Int)).toNat := rfl
    rw [← hm0] at hsum
    clear hm0 HUF
    generalize hmm : upN n e.file.kept e.file.bytes.length = m at *
    have hnz : ¬ ((e.file.bytes.length : Int) - (e.file.kept : Int) + 1 = 0) := by omega
    have hcut := fun W => cut_run A e.file.bytes.length c (m : Int) (by omega) (by omega) W
    simp only [Int.toNat_natCast] at hcut
    have hw1 : IntKind.i64.wrap ((e.file.bytes.length : Int) - (e.file.kept : Int)) = (e.file.bytes.length : Int) - (e.file.kept : Int) := (by rw [IntKind.wrap_i64]; omega)
    have hw2 : IntKind.i64.wrap ((e.file.bytes.length : Int) - (e.file.kept : Int) + 1) = (e.file.bytes.length : Int) - (e.file.kept : Int) + 1 := (by rw [IntKind.wrap_i64]; omega)
    have hw3 : IntKind.i64.wrap (m : Int) = (m : Int) := (by rw [IntKind.wrap_i64]; omega)
    refine start_ (S := fun W => W.cell? ⟨e.blk, 0, none⟩ = some (.slice A e.file.bytes.length c) ∧ W.cell? ⟨e.blk, 1, none⟩ = some (.int .i64 e.file.kept)) (ds := [27]) #[false, false, false, false, false, false, false, false, false, false, false, false, false, false, false, false, false, false, false, false, false, false, false, false, false, false, false, false] (by kernel_rfl) rfl rfl (And.intro g0 g1) (fun hS => ?_)
    refine take_ (i := 0) (v := .pointer (some ⟨e.blk, 0, none⟩)) #[true, false, false, false, false, false, false, false, false, false, false, false, false, false, false, false, false, false, false, false, false, false, false, false, false, false, false, false] rfl rfl (by kernel_rfl) (fun _ _ _ h => h) (Or.inl ⟨by rfl, ?_⟩) hS rfl ?_
    · (intro W hW; obtain ⟨q0, q1⟩ := hW; go_simp)
    try simp only [Act.put, List.setIfInBounds_toArray, List.set_cons_zero, List.set_cons_succ]
    refine take_ (i := 1) (v := .pointer (some ⟨e.blk, 0, none⟩)) #[true, true, false, false, false, false, false, false, false, false, false, false, false, false, false, false, false, false, false, false, false, false, false, false, false, false, false, false] rfl rfl (by kernel_rfl) (fun _ _ _ h => h) (Or.inl ⟨by rfl, ?_⟩) hS rfl ?_
    · (intro W hW; obtain ⟨q0, q1⟩ := hW; go_simp)
    try simp only [Act.put, List.setIfInBounds_toArray, List.set_cons_zero, List.set_cons_succ]
    refine take_ (i := 2) (v := .pointer (some ⟨e.blk, 0, none⟩)) #[true, true, true, false, false, false, false, false, false, false, false, false, false, false, false, false, false, false, false, false, false, false, false, false, false, false, false, false] rfl rfl (by kernel_rfl) (fun _ _ _ h => h) (Or.inl ⟨by rfl, ?_⟩) hS rfl ?_
    · (intro W hW; obtain ⟨q0, q1⟩ := hW; go_simp)
    try simp only [Act.put, List.setIfInBounds_toArray, List.set_cons_zero, List.set_cons_succ]
    refine take_ (i := 3) (v := .pointer (some ⟨e.blk, 0, none⟩)) #[true, true, true, true, false, false, false, false, false, false, false, false, false, false, false, false, false, false, false, false, false, false, false, false, false, false, false, false] rfl rfl (by kernel_rfl) (fun _ _ _ h => h) (Or.inl ⟨by rfl, ?_⟩) hS rfl ?_
    · (intro W hW; obtain ⟨q0, q1⟩ := hW; go_simp)
    try simp only [Act.put, List.setIfInBounds_toArray, List.set_cons_zero, List.set_cons_succ]
    refine take_ (i := 4) (v := .slice A e.file.bytes.length c) #[true, true, true, true, true, false, false, false, false, false, false, false, false, false, false, false, false, false, false, false, false, false, false, false, false, false, false, false] rfl rfl (by kernel_rfl) (fun _ _ _ h => h) (Or.inl ⟨by rfl, ?_⟩) hS rfl ?_
    · (intro W hW; obtain ⟨q0, q1⟩ := hW; go_simp)
    try simp only [Act.put, List.setIfInBounds_toArray, List.set_cons_zero, List.set_cons_succ]
    refine take_ (i := 5) (v := .pointer (some ⟨e.blk, 0, none⟩)) #[true, true, true, true, true, true, false, false, false, false, false, false, false, false, false, false, false, false, false, false, false, false, false, false, false, false, false, false] rfl rfl (by kernel_rfl) (fun _ _ _ h => h) (Or.inl ⟨by rfl, ?_⟩) hS rfl ?_
    · (intro W hW; obtain ⟨q0, q1⟩ := hW; go_simp)
    try simp only [Act.put, List.setIfInBounds_toArray, List.set_cons_zero, List.set_cons_succ]
    refine take_ (i := 6) (v := .pointer (some ⟨e.blk, 0, none⟩)) #[true, true, true, true, true, true, true, false, false, false, false, false, false, false, false, false, false, false, false, false, false, false, false, false, false, false, false, false] rfl rfl (by kernel_rfl) (fun _ _ _ h => h) (Or.inl ⟨by rfl, ?_⟩) hS rfl ?_
    · (intro W hW; obtain ⟨q0, q1⟩ := hW; go_simp)
    try simp only [Act.put, List.setIfInBounds_toArray, List.set_cons_zero, List.set_cons_succ]
    refine take_ (i := 7) (v := .pointer (some ⟨e.blk, 1, none⟩)) #[true, true, true, true, true, true, true, true, false, false, false, false, false, false, false, false, false, false, false, false, false, false, false, false, false, false, false, false] rfl rfl (by kernel_rfl) (fun _ _ _ h => h) (Or.inl ⟨by rfl, ?_⟩) hS rfl ?_
    · (intro W hW; obtain ⟨q0, q1⟩ := hW; go_simp)
    try simp only [Act.put, List.setIfInBounds_toArray, List.set_cons_zero, List.set_cons_succ]
    refine take_ (i := 8) (v := .int .i64 ((e.file.kept : Int))) #[true, true, true, true, true, true, true, true, true, false, false, false, false, false, false, false, false, false, false, false, false, false, false, false, false, false, false, false] rfl rfl (by kernel_rfl) (fun _ _ _ h => h) (Or.inl ⟨by rfl, ?_⟩) hS rfl ?_
    · (intro W hW; obtain ⟨q0, q1⟩ := hW; go_simp)
    try simp only [Act.put, List.setIfInBounds_toArray, List.set_cons_zero, List.set_cons_succ]
    refine take_ (i := 9) (v := .int .i64 (upP n)) #[true, true, true, true, true, true, true, true, true, true, false, false, false, false, false, false, false, false, false, false, false, false, false, false, false, false, false, false] rfl rfl (by kernel_rfl) (fun _ _ _ h => h) (Or.inl ⟨by rfl, ?_⟩) hS rfl ?_
    · (intro W hW; obtain ⟨q0, q1⟩ := hW; go_simp)
    try simp only [Act.put, List.setIfInBounds_toArray, List.set_cons_zero, List.set_cons_succ]
    refine take_ (i := 10) (v := .pointer (some ⟨e.blk, 0, none⟩)) #[true, true, true, true, true, true, true, true, true, true, true, false, false, false, false, false, false, false, false, false, false, false, false, false, false, false, false, false] rfl rfl (by kernel_rfl) (fun _ _ _ h => h) (Or.inl ⟨by rfl, ?_⟩) hS rfl ?_
    · (intro W hW; obtain ⟨q0, q1⟩ := hW; go_simp)
    try simp only [Act.put, List.setIfInBounds_toArray, List.set_cons_zero, List.set_cons_succ]
    refine take_ (i := 11) (v := .pointer (some ⟨e.blk, 0, none⟩)) #[true, true, true, true, true, true, true, true, true, true, true, true, false, false, false, false, false, false, false, false, false, false, false, false, false, false, false, false] rfl rfl (by kernel_rfl) (fun _ _ _ h => h) (Or.inl ⟨by rfl, ?_⟩) hS rfl ?_
    · (intro W hW; obtain ⟨q0, q1⟩ := hW; go_simp)
    try simp only [Act.put, List.setIfInBounds_toArray, List.set_cons_zero, List.set_cons_succ]
    refine take_ (i := 12) (v := .pointer (some ⟨e.blk, 0, none⟩)) #[true, true, true, true, true, true, true, true, true, true, true, true, true, false, false, false, false, false, false, false, false, false, false, false, false, false, false, false] rfl rfl (by kernel_rfl) (fun _ _ _ h => h) (Or.inl ⟨by rfl, ?_⟩) hS rfl ?_
    · (intro W hW; obtain ⟨q0, q1⟩ := hW; go_simp)
    try simp only [Act.put, List.setIfInBounds_toArray, List.set_cons_zero, List.set_cons_succ]
    refine take_ (i := 13) (v := .slice A e.file.bytes.length c) #[true, true, true, true, true, true, true, true, true, true, true, true, true, true, false, false, false, false, false, false, false, false, false, false, false, false, false, false] rfl rfl (by kernel_rfl) (fun _ _ _ h => h) (Or.inl ⟨by rfl, ?_⟩) hS rfl ?_
    · (intro W hW; obtain ⟨q0, q1⟩ := hW; go_simp)
    try simp only [Act.put, List.setIfInBounds_toArray, List.set_cons_zero, List.set_cons_succ]
    refine take_ (i := 14) (v := .int .i64 ((e.file.bytes.length : Int))) #[true, true, true, true, true, true, true, true, true, true, true, true, true, true, true, false, false, false, false, false, false, false, false, false, false, false, false, false] rfl rfl (by kernel_rfl) (fun _ _ _ h => h) (Or.inl ⟨by rfl, ?_⟩) hS rfl ?_
    · (intro W hW; obtain ⟨q0, q1⟩ := hW; go_simp)
    try simp only [Act.put, List.setIfInBounds_toArray, List.set_cons_zero, List.set_cons_succ]
    refine take_ (i := 15) (v := .pointer (some ⟨e.blk, 0, none⟩)) #[true, true, true, true, true, true, true, true, true, true, true, true, true, true, true, true, false, false, false, false, false, false, false, false, false, false, false, false] rfl rfl (by kernel_rfl) (fun _ _ _ h => h) (Or.inl ⟨by rfl, ?_⟩) hS rfl ?_
    · (intro W hW; obtain ⟨q0, q1⟩ := hW; go_simp)
    try simp only [Act.put, List.setIfInBounds_toArray, List.set_cons_zero, List.set_cons_succ]
    refine take_ (i := 16) (v := .pointer (some ⟨e.blk, 0, none⟩)) #[true, true, true, true, true, true, true, true, true, true, true, true, true, true, true, true, true, false, false, false, false, false, false, false, false, false, false, false] rfl rfl (by kernel_rfl) (fun _ _ _ h => h) (Or.inl ⟨by rfl, ?_⟩) hS rfl ?_
    · (intro W hW; obtain ⟨q0, q1⟩ := hW; go_simp)
    try simp only [Act.put, List.setIfInBounds_toArray, List.set_cons_zero, List.set_cons_succ]
    refine take_ (i := 17) (v := .pointer (some ⟨e.blk, 1, none⟩)) #[true, true, true, true, true, true, true, true, true, true, true, true, true, true, true, true, true, true, false, false, false, false, false, false, false, false, false, false] rfl rfl (by kernel_rfl) (fun _ _ _ h => h) (Or.inl ⟨by rfl, ?_⟩) hS rfl ?_
    · (intro W hW; obtain ⟨q0, q1⟩ := hW; go_simp)
    try simp only [Act.put, List.setIfInBounds_toArray, List.set_cons_zero, List.set_cons_succ]
    refine take_ (i := 18) (v := .int .i64 ((e.file.kept : Int))) #[true, true, true, true, true, true, true, true, true, true, true, true, true, true, true, true, true, true, true, false, false, false, false, false, false, false, false, false] rfl rfl (by kernel_rfl) (fun _ _ _ h => h) (Or.inl ⟨by rfl, ?_⟩) hS rfl ?_
    · (intro W hW; obtain ⟨q0, q1⟩ := hW; go_simp)
    try simp only [Act.put, List.setIfInBounds_toArray, List.set_cons_zero, List.set_cons_succ]
    refine take_ (i := 19) (v := .int .i64 ((e.file.bytes.length : Int) - (e.file.kept : Int))) #[true, true, true, true, true, true, true, true, true, true, true, true, true, true, true, true, true, true, true, true, false, false, false, false, false, false, false, false] rfl rfl (by kernel_rfl) (fun _ _ _ h => h) (Or.inl ⟨by rfl, ?_⟩) hS rfl ?_
    · (intro W hW; obtain ⟨q0, q1⟩ := hW; go_simp)
    try simp only [Act.put, List.setIfInBounds_toArray, List.set_cons_zero, List.set_cons_succ]
    refine take_ (i := 20) (v := .int .i64 ((e.file.bytes.length : Int) - (e.file.kept : Int) + 1)) #[true, true, true, true, true, true, true, true, true, true, true, true, true, true, true, true, true, true, true, true, true, false, false, false, false, false, false, false] rfl rfl (by kernel_rfl) (fun _ _ _ h => h) (Or.inl ⟨by rfl, ?_⟩) hS rfl ?_
    · (intro W hW; obtain ⟨q0, q1⟩ := hW; go_simp)
    try simp only [Act.put, List.setIfInBounds_toArray, List.set_cons_zero, List.set_cons_succ]
    refine take_ (i := 21) (v := .int .i64 (r)) #[true, true, true, true, true, true, true, true, true, true, true, true, true, true, true, true, true, true, true, true, true, true, false, false, false, false, false, false] rfl rfl (by kernel_rfl) (fun _ _ _ h => h) (Or.inl ⟨by rfl, ?_⟩) hS rfl ?_
    · (intro W hW; obtain ⟨q0, q1⟩ := hW; go_simp)
    try simp only [Act.put, List.setIfInBounds_toArray, List.set_cons_zero, List.set_cons_succ]
    refine take_ (i := 22) (v := .int .i64 ((m : Int))) #[true, true, true, true, true, true, true, true, true, true, true, true, true, true, true, true, true, true, true, true, true, true, true, false, false, false, false, false] rfl rfl (by kernel_rfl) (fun _ _ _ h => h) (Or.inl ⟨by rfl, ?_⟩) hS rfl ?_
    · (intro W hW; obtain ⟨q0, q1⟩ := hW; go_simp)
    try simp only [Act.put, List.setIfInBounds_toArray, List.set_cons_zero, List.set_cons_succ]
    refine take_ (i := 23) (v := .slice A m c) #[true, true, true, true, true, true, true, true, true, true, true, true, true, true, true, true, true, true, true, true, true, true, true, true, false, false, false, false] rfl rfl (by kernel_rfl) (fun _ _ _ h => h) (Or.inl ⟨by rfl, ?_⟩) hS rfl ?_
    · (intro W hW; obtain ⟨q0, q1⟩ := hW; go_simp)
    try simp only [Act.put, List.setIfInBounds_toArray, List.set_cons_zero, List.set_cons_succ]
    refine one_ (i := 24) #[true, true, true, true, true, true, true, true, true, true, true, true, true, true, true, true, true, true, true, true, true, true, true, true, true, false, false, false] rfl rfl (by kernel_rfl) (by decide) (fun K hK => ?_)
    rw [if_pos (by rfl)]
    go_simp
    refine (HCl.out _ ((Below.refl _ _).drew)).mono ?_
    rintro x w3 ⟨v, rfl, hR, hb3⟩
    have HB3 := Aside0.mk (((Below.refl wr.heap.size wr).drew).trans hb3)
    obtain ⟨A4, c4, rfl⟩ := Kd.R_slice hR
    rw [List.length_take, Nat.min_eq_left hmB.2] at hR ⊢
    have f4 : w3.cell? ⟨e.blk, 0, none⟩ = some (.slice A e.file.bytes.length c) := pw_cell_below HB3.out (cell_of_row wr _ 0 _ _ _ HBl.out)
    have HR' := Aside0.mk hR
    have p1 : w3.cell? ⟨e.blk, 1, none⟩ = some (.int .i64 e.file.kept) := pw_cell_below HB3.out (cell_of_row wr _ 1 _ _ _ HBl.out)
    have zf4 : w3.frozen? ⟨e.blk, 0, none⟩ = false := frozen_of_row w3 e.blk 0 _ _ ((HB3.out.block _ (Array.getElem?_eq_some_iff.1 HBl.out).1).trans HBl.out)
    have HS3 := Aside0.mk (And.intro p1 zf4)
    refine hK.out _ _ ⟨f4, p1⟩ (fun hS3 => ?_)
    try simp only [Act.put, List.setIfInBounds_toArray, List.set_cons_zero, List.set_cons_succ]
    refine take_ (i := 25) (v := .pointer (some ⟨e.blk, 0, none⟩)) #[true, true, true, true, true, true, true, true, true, true, true, true, true, true, true, true, true, true, true, true, true, true, true, true, true, true, false, false] rfl rfl (by kernel_rfl) (fun _ _ _ h => h) (Or.inl ⟨by rfl, ?_⟩) hS3 rfl ?_
    · (intro W hW; obtain ⟨q0, q1⟩ := hW; go_simp)
    try simp only [Act.put, List.setIfInBounds_toArray, List.set_cons_zero, List.set_cons_succ]
    refine take_ (i := 26) (v := .pointer (some ⟨e.blk, 0, none⟩)) #[true, true, true, true, true, true, true, true, true, true, true, true, true, true, true, true, true, true, true, true, true, true, true, true, true, true, true, false] rfl rfl (by kernel_rfl) (fun _ _ _ h => h) (Or.inl ⟨by rfl, ?_⟩) hS3 rfl ?_
    · (intro W hW; obtain ⟨q0, q1⟩ := hW; go_simp)
    try simp only [Act.put, List.setIfInBounds_toArray, List.set_cons_zero, List.set_cons_succ]
    refine last_ (i := 27) #[true, true, true, true, true, true, true, true, true, true, true, true, true, true, true, true, true, true, true, true, true, true, true, true, true, true, true, true] rfl rfl (by kernel_rfl) (by decide) (fun K2 hK2 => ?_)
    rw [if_pos (by rfl)]
    clear hK hR
    go_simp
    refine hK2.out _ _ ?_
    refine done_ (by kernel_rfl) ?_
    have q0 : (w3.setCell ⟨e.blk, 0, none⟩ (.slice A4 m c4)).cell? ⟨e.blk, 0, none⟩ = some (.slice A4 m c4) := World.cell?_setCell_same _ _ _ f4
    have q1 : (w3.setCell ⟨e.blk, 0, none⟩ (.slice A4 m c4)).cell? ⟨e.blk, 1, none⟩ = some (.int .i64 e.file.kept) := (World.cell?_setCell_other _ _ _ _ (by simp)).trans HS3.out.1
    have q2 : (w3.setCell ⟨e.blk, 0, none⟩ (.slice A4 m c4)).frozen? ⟨e.blk, 1, none⟩ = false := (World.frozen?_setCell ..).trans (frozen_of_row w3 e.blk 1 _ _ ((HB3.out.block _ (Array.getElem?_eq_some_iff.1 HBl.out).1).trans HBl.out))
    have HN := Aside0.mk (HM.out w3 HB3.out _ _ _ _ _ HR'.out (Nat.le_refl _))
    rw [HST.out] at HN
    go_wp2
    go_roundw
    case rel => exact ⟨k + 1, by go_num, by omega, HN.out.1, HFW.out.trans HN.out.2⟩
    case measure => simp [intOf]; omega
end Go.Proofs.Ytbndgnbhmifefaa
