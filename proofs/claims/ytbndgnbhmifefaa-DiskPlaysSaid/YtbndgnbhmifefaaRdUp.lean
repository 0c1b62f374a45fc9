/- The reference's Up. -/
import Derived.Test.YtbndgnbhmifefaaRdB
import Derived.Test.YtbndgnbhmifefaaDkUp
namespace Go.Proofs.Ytbndgnbhmifefaa
open Go.RowKit Go.Proofs.YtbndgnbhmifefaaW.PrintWords Go.Proofs.YtbndgnbhmifefaaW.PrintMore
set_option linter.unusedVariables false
set_option linter.unusedSimpArgs false
def keepAt (keep : List Int) (i : Nat) : Int := keep.getD i 0
def upM (n : Int) (len : Nat) : Nat := (upP n % ((len + 1 : Nat) : Int)).toNat
def upF (keep : List Int) (i : Nat) (f : RF) : RF := ⟨f.name, f.kept ++ f.loose.extract 0 (upM (keepAt keep i) f.loose.size), ⟨#[]⟩⟩
def upL (keep : List Int) (L : List RF) : List RF := L.mapIdx (upF keep)
theorem upM_le (n : Int) (h : -9223372036854775808 ≤ n) (len : Nat) : upM n len ≤ len := by
  unfold upM
  have hP : 0 ≤ upP n := by unfold upP; split <;> omega
  have := Int.emod_lt_of_pos (upP n) (b := ((len + 1 : Nat) : Int)) (by omega)
  have := Int.emod_nonneg (upP n) (b := ((len + 1 : Nat) : Int)) (by omega)
  omega
theorem rem_m (n : Int) (h : -9223372036854775808 ≤ n) (len : Nat) : (upP n).tmod ((len : Int) + 1) = (upM n len : Int) := by
  have hP : 0 ≤ upP n := by unfold upP; split <;> omega
  rw [Int.tmod_eq_emod_of_nonneg hP]
  unfold upM
  have := Int.emod_nonneg (upP n) (b := ((len + 1 : Nat) : Int)) (by omega)
  have e : ((len + 1 : Nat) : Int) = (len : Int) + 1 := by omega
  rw [e] at this ⊢
  omega
theorem upL_len (keep : List Int) (L : List RF) : (upL keep L).length = L.length := by unfold upL; simp
def upTo (keep : List Int) (L : List RF) (k : Nat) : List RF := (upL keep L).take k ++ L.drop k
theorem upTo_len {keep : List Int} {L : List RF} {k : Nat} (h : k ≤ L.length) : (upTo keep L k).length = L.length := by
  unfold upTo; rw [List.length_append, List.length_take, List.length_drop, upL_len]; omega
theorem upTo_at {keep : List Int} {L : List RF} {k : Nat} (h : k < L.length) : rdRF (upTo keep L k) k = rdRF L k := by
  unfold upTo rdRF
  rw [List.getD_eq_getElem?_getD, List.getD_eq_getElem?_getD, List.getElem?_append_right (by rw [List.length_take, upL_len]; omega), List.length_take, upL_len, Nat.min_eq_left (by omega), Nat.sub_self, List.getElem?_drop, Nat.add_zero]
theorem upTo_succ {keep : List Int} {L : List RF} {k : Nat} (h : k < L.length) : (upTo keep L k).set k (upF keep k (rdRF L k)) = upTo keep L (k + 1) := by
  have hk : rdRF L k = L[k] := by unfold rdRF; simp [List.getD_eq_getElem?_getD, h]
  have hu : k < (upL keep L).length := by rw [upL_len]; exact h
  unfold upTo
  rw [List.take_succ_eq_append_getElem hu, List.set_append_right _ _ (by rw [List.length_take]; omega), List.length_take, Nat.min_eq_left (by omega), Nat.sub_self, List.drop_eq_getElem_cons h, List.set_cons_zero, List.append_assoc]
  simp [upL, hk]
theorem cut_str (s : ByteArray) (m : Nat) (h : m ≤ s.size) (W : World) : (Instr.slice 9 (.string s) none (some (.int .i64 (m : Int))) none).run Try.prog W = .ok (.string (s.extract 0 m)) W := by
  rw [run_slice_string_h W 9 s Try.underlying9 .i64 _ (by omega) (by omega), Int.toNat_natCast]
set_option maxRecDepth 100000 in
set_option maxHeartbeats 8000000 in
theorem rup_idle {Q : Nat → Prop} (g : Nat) (r : RS) (kA : Option Addr) (kn kc : Nat) (w : World) (h : RRep Q w g r) (hg : r.gone = false) :
    Calls Try.prog 36 #[.pointer (some ⟨g, 0, none⟩), .slice kA kn kc] w fun e w' => e = .returned (.tuple #[]) ∧ w' = w := by
  obtain ⟨A, c, hl⟩ := h.look
  have c3 := hl.c3
  rw [hg] at c3
  clear h hl
  go_enter Try.func36, Try.ntmps36
  go_wp2
  exact bodyPost_ret (v := .tuple #[]) (by simp [results, Try.results36, go_sem]) rfl ⟨rfl, rfl⟩
theorem DFrame.cellAt {O : Nat → Prop} {w w' : World} (h : DFrame O w w') {p : Addr} {v : Value} (hO : ¬ O p.block) (hc : w.cell? p = some v) : w'.cell? p = some v := by
  have hlt : p.block < w.heap.size := by
    rcases Nat.lt_or_ge p.block w.heap.size with h1 | h1
    · exact h1
    · exfalso
      unfold World.cell? at hc
      rw [Array.getElem?_eq_none h1] at hc
      simp at hc
  unfold World.cell? at hc ⊢
  rw [h.block _ hlt hO]
  exact hc
theorem add_blk (a : Addr) (n : Nat) : (a.add n).block = a.block := by obtain ⟨b, o, sp⟩ := a; cases sp <;> simp only [Addr.add] <;> split <;> rfl
set_option maxRecDepth 100000 in
set_option maxHeartbeats 8000000 in
theorem rup_gone (Q : Nat → Prop) (w0 : World) (g : Nat) (r : RS) (kA : Option Addr) (kc : Nat) (keep : List Int) (hn : r.L.length ≤ 100000) (hbytes : bytesR r.L ≤ 1000000) (hkl : ∀ i, -9223372036854775808 ≤ keepAt keep i ∧ keepAt keep i ≤ 9223372036854775807) (w : World) (h : RHas Q w0 w g r) (hg : r.gone = true)
    (hK : kI64.C w kA keep.length keep) (hkQ : 0 < keep.length → ∀ ad, kA = some ad → ¬ Q ad.block) :
    Calls Try.prog 36 #[.pointer (some ⟨g, 0, none⟩), .slice kA keep.length kc] w fun e w' => e = .returned (.tuple #[]) ∧ RHas Q w0 w' g { r with gone := false, armed := -1, L := upL keep r.L } := by
  obtain ⟨v, hb, _⟩ := h.rep.rep
  have c2 : w.cell? ⟨g, 2, none⟩ = some (.int .i64 r.armed) := cell_of_row w _ 2 _ _ _ hb
  have c3 : w.cell? ⟨g, 3, none⟩ = some (.bool r.gone) := cell_of_row w _ 3 _ _ _ hb
  have z2 := frozen_of_row w g 2 _ _ hb
  have z3 := frozen_of_row w g 3 _ _ hb
  rw [hg] at c3
  have HH := Aside0.mk h
  have hw : RHas Q w w g r := ⟨h.hB, DFrame.refl _ _, h.rep⟩
  have H2 := Aside0.mk ((hw.cell (r' := { r with gone := false }) 3 (.bool false) rfl (fun v => rfl)).cell (r' := { r with gone := false, armed := -1 }) 2 (.int .i64 (-1)) rfl (fun v => rfl))
  have HKp := Aside0.mk hK
  have HKQ := Aside0.mk hkQ
  clear h hw hb hg hK hkQ
  go_enter Try.func36, Try.ntmps36
  go_upto_region 3 with fail
  generalize (w.setCell ⟨g, 3, none⟩ (.bool false)).setCell ⟨g, 2, none⟩ (.int .i64 (-1)) = w2 at *
  go_wp2_with fail
  go_loopw [4] (fun i wr => ∃ k : Nat, i = .int .i64 k ∧ k ≤ r.L.length ∧ RHas Q w wr g { r with gone := false, armed := -1, L := upTo keep r.L k }) (fun i _ => r.L.length - (intOf i).toNat)
  case atStart => exact ⟨0, rfl, by omega, H2.out⟩
  case round =>
    obtain ⟨k, rfl, hk, hR⟩ := hrel
    have HR := Aside0.mk hR
    have HFW := Aside0.mk hR.frame
    clear hR c2 c3 z2 z3
    by_cases hlt : k < r.L.length
    case neg =>
      obtain rfl : k = r.L.length := by omega
      obtain ⟨A, c, hl⟩ := HR.out.rep.look
      have c1 : wr.cell? ⟨g, 1, none⟩ = some (.slice A r.L.length c) := by have := hl.c1; rw [upTo_len (Nat.le_refl _)] at this; exact this
      have HE := Aside0.mk (show upTo keep r.L r.L.length = upL keep r.L by unfold upTo; rw [List.take_of_length_le (by rw [upL_len]; exact Nat.le_refl _), List.drop_length, List.append_nil])
      clear hl
      go_wp2_with fail
      go_end0
      exact ⟨rfl, by rw [← HE.out]; exact HH.out.pass HR.out (fun _ h => h)⟩
    obtain ⟨bb, cc, he⟩ := HR.out.elem (k := k) (by show k < (upTo keep r.L k).length; rw [upTo_len hk]; exact hlt)
    have HEl := Aside0.mk he
    have c1 : wr.cell? ⟨g, 1, none⟩ = some (.slice (some ⟨bb, 0, none⟩) r.L.length cc) := by have := he.c1; rw [upTo_len hk] at this; exact this
    have d1 : wr.cell? ⟨bb, k * 3 + 1, none⟩ = some (.string (rdRF r.L k).kept) := by have := he.d1; rw [upTo_at hlt] at this; exact this
    have d2 : wr.cell? ⟨bb, k * 3 + 2, none⟩ = some (.string (rdRF r.L k).loose) := by have := he.d2; rw [upTo_at hlt] at this; exact this
    clear he
    have hj0 : (0 : Int) ≤ (k : Int) := by omega
    have hj1 : (k : Int) < (r.L.length : Int) := by omega
    go_upto_if 29 with fail
    go_cut [5] (fun v w' => wr = w' ∧ v = .int .i64 (keepAt keep k))
    case first =>
      by_cases hkk : k < keep.length
      · obtain ⟨ad, e, h3⟩ := HKp.out.2.2 (by omega)
        subst e
        obtain ⟨cs, _, hcs, hc3⟩ := h3 k _ (List.getElem?_eq_getElem hkk)
        obtain rfl : cs = [.int .i64 keep[k]] := hcs
        have hq0 : w.cell? (ad.add (k * 1 + 0)) = some (.int .i64 keep[k]) := hc3 0 _ rfl
        rw [Nat.mul_one, Nat.add_zero] at hq0
        have hz : keepAt keep k = keep[k] := by unfold keepAt; simp [List.getD_eq_getElem?_getD, hkk]
        rw [← hz] at hq0
        have hq1 := HFW.out.cellAt (by rw [add_blk]; exact HKQ.out (by omega) ad rfl) hq0
        have hl2 : decide ((k : Int) < (keep.length : Int)) = true := decide_eq_true (by omega)
        have hl3 : (k : Int) < (keep.length : Int) := by omega
        clear hz hq0 hc3 h3
        go_wp2_with fail
        go_meet
        case rel => exact ⟨rfl, rfl⟩
      · have hz : keepAt keep k = 0 := by unfold keepAt; simp [List.getD_eq_getElem?_getD, List.getElem?_eq_none (by omega : keep.length ≤ k)]
        have hl2 : decide ((k : Int) < (keep.length : Int)) = false := decide_eq_false (by omega)
        go_wp2_with fail
        go_meet
        case rel => exact ⟨rfl, by rw [hz]⟩
    obtain ⟨rfl, rfl⟩ := hcut
    have hb1 := (hkl k).1
    have hb2 := (hkl k).2
    generalize hkn : keepAt keep k = n at *
    go_upto_if 35 with fail
    go_cut [5] (fun v w' => wr = w' ∧ v = .int .i64 (upP n))
    case first =>
      by_cases hneg : n < 0
      · have hu : upP n = -(n + 1) := by unfold upP; rw [if_pos hneg]
        have hw1 : IntKind.i64.wrap (n + 1) = n + 1 := by rw [IntKind.wrap_i64]; omega
        have hw2 : IntKind.i64.wrap (-(n + 1)) = -(n + 1) := by rw [IntKind.wrap_i64]; omega
        have hd : decide (n < 0) = true := decide_eq_true hneg
        go_wp2_with fail
        go_meet
        case rel => exact ⟨rfl, by rw [hu]⟩
      · have hu : upP n = n := by unfold upP; rw [if_neg hneg]
        have hd : decide (n < 0) = false := decide_eq_false hneg
        go_wp2_with fail
        go_meet
        case rel => exact ⟨rfl, by rw [hu]⟩
    obtain ⟨rfl, rfl⟩ := hcut
    go_upto_region 11 with fail
    have hsz := bytesR_at hlt
    have htm := rem_m n hb1 (rdRF r.L k).loose.size
    have hml := upM_le n hb1 (rdRF r.L k).loose.size
    have HUF := Aside0.mk (show upF keep k (rdRF r.L k) = ⟨(rdRF r.L k).name, (rdRF r.L k).kept ++ (rdRF r.L k).loose.extract 0 (upM n (rdRF r.L k).loose.size), ⟨#[]⟩⟩ by unfold upF; rw [hkn])
    generalize hmm : upM n (rdRF r.L k).loose.size = m at *
    have hnz : ¬ (((rdRF r.L k).loose.size : Int) + 1 = 0) := by omega
    have hw1 : IntKind.i64.wrap (((rdRF r.L k).loose.size : Int) + 1) = ((rdRF r.L k).loose.size : Int) + 1 := by rw [IntKind.wrap_i64]; omega
    have hw3 : IntKind.i64.wrap (m : Int) = (m : Int) := by rw [IntKind.wrap_i64]; omega
    have hcs := fun W => cut_str (rdRF r.L k).loose m hml W
    have hadd : ∀ W : World, (Op.stringOp .add (rdRF r.L k).kept ((rdRF r.L k).loose.extract 0 m)).run Try.prog W = .ok (.string ((rdRF r.L k).kept ++ (rdRF r.L k).loose.extract 0 m)) W := fun W => run_string_add_sum (P := Try.prog) W _ _ (by simp only [ByteArray.size_extract]; omega)
    go_still_tail 37, (by kernel_rfl)
    change wpList _ _ _ _ _ wr.drew
    generalize hwA : wr.drew = wA
    have hb12 : Below wr.heap.size wr wA := hwA ▸ (Below.refl _ _).drew
    have HRA := Aside0.mk (HR.out.below hb12)
    have e1 := pw_cell_below hb12 c1
    clear c1 d1 d2 HEl hwA hb12
    obtain ⟨bx, cx, he⟩ := HRA.out.elem (k := k) (by show k < (upTo keep r.L k).length; rw [upTo_len hk]; exact hlt)
    obtain ⟨ex1, ex2⟩ : bx = bb ∧ cx = cc := by
      have e2 := he.c1.symm.trans e1
      simp only [Option.some.injEq, Value.slice.injEq, Addr.mk.injEq, and_true] at e2
      exact ⟨e2.1, e2.2.2⟩
    subst bx
    subst cx
    clear e1
    have c1 : wA.cell? ⟨g, 1, none⟩ = some (.slice (some ⟨bb, 0, none⟩) r.L.length cc) := by have := he.c1; rw [upTo_len hk] at this; exact this
    have d1 : wA.cell? ⟨bb, k * 3 + 1, none⟩ = some (.string (rdRF r.L k).kept) := by have := he.d1; rw [upTo_at hlt] at this; exact this
    have f1 := he.f1
    have h3 := he.s1 ((rdRF r.L k).kept ++ (rdRF r.L k).loose.extract 0 m)
    clear he
    go_upto_region 12 with fail
    generalize wA.setCell ⟨bb, k * 3 + 1, none⟩ (.string ((rdRF r.L k).kept ++ (rdRF r.L k).loose.extract 0 m)) = wB at *
    clear c1 d1 f1
    have hkl3 : k < ((upTo keep r.L k).set k { rdRF (upTo keep r.L k) k with kept := (rdRF r.L k).kept ++ (rdRF r.L k).loose.extract 0 m }).length := by rw [List.length_set, upTo_len hk]; exact hlt
    obtain ⟨b3, cc3, he⟩ := h3.elem (k := k) hkl3
    have c1 : wB.cell? ⟨g, 1, none⟩ = some (.slice (some ⟨b3, 0, none⟩) r.L.length cc3) := by have := he.c1; rw [List.length_set, upTo_len hk] at this; exact this
    have d2 := he.d2
    have f2 := he.f2
    have h4 := he.s2 ⟨#[]⟩
    have hq : ((upTo keep r.L k).set k { rdRF (upTo keep r.L k) k with kept := (rdRF r.L k).kept ++ (rdRF r.L k).loose.extract 0 m }).set k { rdRF ((upTo keep r.L k).set k { rdRF (upTo keep r.L k) k with kept := (rdRF r.L k).kept ++ (rdRF r.L k).loose.extract 0 m }) k with loose := ⟨#[]⟩ } = upTo keep r.L (k + 1) := by
      rw [List.set_set, rd_set (by rw [upTo_len hk]; exact hlt), upTo_at hlt, ← upTo_succ hlt, HUF.out]
    have h5 : RHas Q w (wB.setCell ⟨b3, k * 3 + 2, none⟩ (.string ⟨#[]⟩)) g { r with gone := false, armed := -1, L := upTo keep r.L (k + 1) } := by rw [← hq]; exact h4
    have H5 := Aside0.mk h5
    clear he h3 h4 hq h5 hkl3
    go_wp2_with fail
    go_roundw
    case rel => exact ⟨k + 1, by go_num, by omega, H5.out⟩
    case measure => simp [intOf]; omega
end Go.Proofs.Ytbndgnbhmifefaa
