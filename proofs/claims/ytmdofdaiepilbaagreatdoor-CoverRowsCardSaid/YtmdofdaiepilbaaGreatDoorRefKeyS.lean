/- The document's Key of a row. Conditions: rows and columns read so; the keys are columns; the texts' lengths. -/
import Derived.Test.YtmdofdaiepilbaaGreatDoorRefKey
import Derived.Test.YtmdofdaiepilbaaGreatDoorGKeys
namespace Go.Proofs.YtmdofdaiepilbaaGreatDoor
open Go.RowKit Go.Proofs.YtmdofdaiepilbaaGreatDoorW.PrintWords Go.Proofs.YtmdofdaiepilbaaGreatDoorW.PrintMore
set_option linter.unusedVariables false
set_option linter.unusedSimpArgs false
set_option maxRecDepth 100000 in
set_option maxHeartbeats 8000000 in
theorem key04_calls (A : Option Addr) (c : Nat) (l : List Col) (ks : Int) (hk0 : 0 ≤ ks) (hk1 : ks ≤ (l.length : Int)) (hk2 : ks ≤ 1000000) (R : Option Addr) (cr : Nat) (row : List Val) (hcr : row.length ≤ cr) (w : World) (hC : kCol.C w A l.length l) (hR : kVal.C w R row.length row) (hTx : txtOk row) (hn : numOk row) :
    Calls Tryz.prog 46 #[.agg #[.slice A l.length c, .int .i64 ks], .slice R row.length cr] w fun e w' => e = .returned (.tuple #[.string (keyE l ks row).1, .int .i64 (keyE l ks row).2]) ∧ Below w.heap.size w w' := by
  have hlen : l.length ≤ 9223372036854775807 := hC.2.1
  have hrow : row.length ≤ 9223372036854775807 := hR.2.1
  have HC := Aside0.mk hC
  have HR := Aside0.mk hR
  have HTx := Aside0.mk hTx
  have HNn := Aside0.mk hn
  clear hC hR hTx hn
  by_cases hlt : ks ≤ (row.length : Int)
  case neg =>
    have q : decide ((row.length : Int) < ks) = true := decide_eq_true (by omega)
    have HE := Aside0.mk (show keyE l ks row = (⟨#[]⟩, 9) by unfold keyE beginB; rw [decide_eq_false hlt]; rfl)
    clear hlt
    go_enter Tryz.func46, Tryz.ntmps46
    go_wp2
    exact bodyPost_ret (v := .tuple #[.string ⟨#[]⟩, .int .i64 9]) (by simp [results, Tryz.results46, go_sem]) rfl ⟨by rw [HE.out], below_alloc (Below.refl _ _) _⟩
  have q : decide ((row.length : Int) < ks) = false := decide_eq_false (by omega)
  have HH := Aside0.mk (show beginB l row ks = (List.range ks.toNat).all (fun i => fitB (rdCol l i) (rdVal row i)) by unfold beginB; rw [decide_eq_true hlt]; rfl)
  go_enter Tryz.func46, Tryz.ntmps46
  go_wp2
  have hW : Below w.heap.size w (w.alloc (.cells #[.slice A l.length c, .int .i64 ks] 43)) := below_alloc (Below.refl _ _) _
  have h0 : (w.alloc (.cells #[.slice A l.length c, .int .i64 ks] 43)).heap[w.heap.size]? = some (.cells #[.slice A l.length c, .int .i64 ks] 43 (0, 0)) := heap_alloc_new _ _
  generalize w.alloc (.cells #[.slice A l.length c, .int .i64 ks] 43) = W1 at *
  have H0 := Aside0.mk h0
  have HW := Aside0.mk hW
  clear h0 hW q
  go_loopw [6] (fun i wr => ∃ k : Nat, (k : Int) ≤ ks ∧ i = .int .i64 k ∧ (∀ j, j < k → fitB (rdCol l j) (rdVal row j) = true) ∧ Below W1.heap.size W1 wr) (fun i _ => ks.toNat - (intOf i).toNat)
  case atStart => exact ⟨0, by omega, rfl, fun j hj => by omega, Below.refl _ _⟩
  case round =>
    obtain ⟨k, hk, rfl, hok, hbel⟩ := hrel
    have HOk := Aside0.mk hok
    clear hok
    have a1 : wr.cell? ⟨w.heap.size, 1, none⟩ = some (.int .i64 ks) := pw_cell_below hbel (cell_of_row W1 _ 1 _ _ _ H0.out)
    by_cases hkn : (k : Int) < ks
    case neg =>
      have q : decide ((k : Int) < ks) = false := decide_eq_false hkn
      have hbg : beginB l row ks = true := by rw [HH.out]; exact range_good (fun j hj => HOk.out j (by omega))
      obtain ⟨hg1, hg2⟩ := beginB_good hbg
      have HE := Aside0.mk (show keyE l ks row = (keyS (row.take ks.toNat), 0) by unfold keyE; rw [hbg]; rfl)
      have hltn : ks.toNat ≤ row.length := by omega
      have hcut := fun W => cutRow R row.length cr ks hk0 (by omega) W
      have hC2 : kVal.C w R (row.take ks.toNat).length (row.take ks.toNat) := Kd.C_take HR.out hltn
      have hlk : (row.take ks.toNat).length = ks.toNat := by rw [List.length_take]; omega
      have HK := Aside0.mk (fun (W : World) (hb : Below w.heap.size w W) => key03_calls R cr (row.take ks.toNat) W (Kd.C_below hC2 hb) hg2 (fun v hv => HNn.out v (List.mem_of_mem_take hv)) (by omega))
      rw [hlk] at HK
      have HBl := Aside0.mk (bmore HW.out hbel)
      clear hbg hg2 hC2 hlk hbel
      generalize keyS (row.take ks.toNat) = ky at *
      go_wp2_with (go_at_call 25; (with_reducible refine (HK.out _ HBl.out).mono ?_); rintro e w3 ⟨rfl, hb1⟩; have HB3 := Aside0.mk (bmore HBl.out hb1); clear hb1)
      exact bodyPost_ret (v := .tuple #[.string ky, .int .i64 0]) (by simp [results, Tryz.results46, go_sem]) rfl ⟨by rw [HE.out], HB3.out⟩
    have q : decide ((k : Int) < ks) = true := decide_eq_true hkn
    obtain ⟨ad, eA, d0, d1, d2⟩ := at_Col HC.out k (by omega)
    subst eA
    obtain ⟨bd, eB, f0, f1, f2⟩ := at_Val HR.out k (by omega)
    subst eB
    replace d0 := pw_cell_below (bmore HW.out hbel) d0
    replace d1 := pw_cell_below (bmore HW.out hbel) d1
    replace d2 := pw_cell_below (bmore HW.out hbel) d2
    replace f0 := pw_cell_below (bmore HW.out hbel) f0
    replace f1 := pw_cell_below (bmore HW.out hbel) f1
    replace f2 := pw_cell_below (bmore HW.out hbel) f2
    have a0 : wr.cell? ⟨w.heap.size, 0, none⟩ = some (.slice (some ad) l.length c) := pw_cell_below hbel (cell_of_row W1 _ 0 _ _ _ H0.out)
    have HBel := Aside0.mk hbel
    have hj0 : (0 : Int) ≤ (k : Int) := by omega
    have hj1 : (k : Int) < (l.length : Int) := by omega
    have hj2 : (k : Int) < (row.length : Int) := by omega
    have hj3 : k < row.length := by omega
    have HF := Aside0.mk (fun (W : World) => stands_calls (rdCol l k).name (rdCol l k).kind (rdCol l k).none (rdVal row k).kind (rdVal row k).num (rdVal row k).text (txtOk_at HTx.out hj3) W)
    have HBad := Aside0.mk (show fitB (rdCol l k) (rdVal row k) = false → keyE l ks row = (⟨#[]⟩, 9) from fun h => by
      have : beginB l row ks = false := by rw [HH.out]; exact range_bad (by omega) h
      unfold keyE; rw [this]; rfl)
    have HNext := Aside0.mk (show fitB (rdCol l k) (rdVal row k) = true → ∀ j, j < k + 1 → fitB (rdCol l j) (rdVal row j) = true from fun hb j hj => by
      rcases Nat.lt_or_ge j k with h | h
      · exact HOk.out j h
      · have : j = k := by omega
        rw [this]; exact hb)
    clear hbel
    change Aside0 (∀ W, Calls _ _ _ _ (fun e w' => e = .returned (.bool (fitB (rdCol l k) (rdVal row k))) ∧ _)) at HF
    generalize fitB (rdCol l k) (rdVal row k) = fb at *
    generalize rdCol l k = x at *
    generalize rdVal row k = y at *
    go_wp2
    go_region_held3 (fun W => W.cell? ⟨w.heap.size, 0, none⟩ = some (.slice (some ad) l.length c) ∧ W.cell? (ad.add (k * 3)) = some (.string x.name) ∧ W.cell? ⟨(ad.add (k * 3)).block, (ad.add (k * 3)).off + 1, none⟩ = some (.int .i64 x.kind) ∧ W.cell? ⟨(ad.add (k * 3)).block, (ad.add (k * 3)).off + 2, none⟩ = some (.bool x.none) ∧ W.cell? (bd.add (k * 3)) = some (.int .i64 y.kind) ∧ W.cell? ⟨(bd.add (k * 3)).block, (bd.add (k * 3)).off + 1, none⟩ = some (.int .i64 y.num) ∧ W.cell? ⟨(bd.add (k * 3)).block, (bd.add (k * 3)).off + 2, none⟩ = some (.string y.text))
      (first | assumption | exact ⟨a0, d0, d1, d2, f0, f1, f2⟩ | exact HS.out | go_keep)
      (first | (go_at_call 72; (with_reducible refine (HF.out _).mono ?_); rintro e w3 ⟨rfl, hb1⟩; have hb3 := bmore ((Below.refl wr.heap.size wr).drew) hb1; have HB3 := Aside0.mk hb3; have HS := Aside0.mk (And.intro (pw_cell_below hb3 a0) (And.intro (pw_cell_below hb3 d0) (And.intro (pw_cell_below hb3 d1) (And.intro (pw_cell_below hb3 d2) (And.intro (pw_cell_below hb3 f0) (And.intro (pw_cell_below hb3 f1) (pw_cell_below hb3 f2))))))); clear hb1 hb3))
    cases fb
    · have HX := Aside0.mk (HBad.out rfl)
      go_wp2
      exact bodyPost_ret (v := .tuple #[.string ⟨#[]⟩, .int .i64 9]) (by simp [results, Tryz.results46, go_sem]) rfl ⟨by rw [HX.out], bmore (bmore HW.out HBel.out) HB3.out⟩
    · have HX := Aside0.mk (HNext.out rfl)
      go_wp2
      go_roundw
      case rel => exact ⟨k + 1, by omega, by go_num, HX.out, bmore HBel.out HB3.out⟩
      case measure => simp [intOf]; omega
end Go.Proofs.YtmdofdaiepilbaaGreatDoor
