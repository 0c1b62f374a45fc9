/- Up, of a disk of one file. Conditions: the power is gone; the keep is of one number, in a block that is none of the disk's own. -/
import Derived.Test.YtbndgnbhmifefaaDkList
import Derived.StillTailTactics
namespace Go.Proofs.Ytbndgnbhmifefaa
open Go.RowKit Go.Proofs.YtbndgnbhmifefaaW.PrintWords Go.Proofs.YtbndgnbhmifefaaW.PrintMore
open Go.Proofs.YtbndgnbhmifefaaW.PrintLast (start_ take_ one_ last_ done_ goes_)
set_option linter.unusedVariables false
set_option linter.unusedSimpArgs false
def upP (n : Int) : Int := if n < 0 then -(n + 1) else n
def upN (n : Int) (kept len : Nat) : Nat := kept + (upP n % ((len - kept + 1 : Nat) : Int)).toNat
theorem upN_le {n : Int} {kept len : Nat} (hn : -9223372036854775808 ≤ n) (h : kept ≤ len) : kept ≤ upN n kept len ∧ upN n kept len ≤ len := by
  unfold upN
  have h0 : 0 ≤ upP n := by unfold upP; split <;> omega
  have h1 := Int.emod_nonneg (upP n) (b := ((len - kept + 1 : Nat) : Int)) (by omega)
  have h2 := Int.emod_lt_of_pos (upP n) (b := ((len - kept + 1 : Nat) : Int)) (by omega)
  omega
theorem rem_eq (P : Int) (hP : 0 ≤ P) (kept len : Nat) (h : kept ≤ len) : ∃ r : Int, P.tmod ((len : Int) - (kept : Int) + 1) = r ∧ (kept : Int) + r = ((kept + (P % ((len - kept + 1 : Nat) : Int)).toNat : Nat) : Int) := by
  refine ⟨_, rfl, ?_⟩
  have e : ((len - kept + 1 : Nat) : Int) = (len : Int) - (kept : Int) + 1 := by omega
  rw [Int.tmod_eq_emod_of_nonneg hP, e]
  have h1 := Int.emod_nonneg P (b := (len : Int) - (kept : Int) + 1) (by omega)
  omega
theorem kept_set {O : Nat → Prop} {W : World} {g M : Nat} {room armed : Int} {down : Bool} {E : List DEnt} (h : DRep O W g M room armed down E) {e : DEnt} (he : e ∈ E) (k : Nat) :
    DRep O (W.setCell ⟨e.blk, 1, none⟩ (.int .i64 k)) g M room armed down (updE E e.blk ⟨e.file.bytes, k⟩) ∧ DFrame O W (W.setCell ⟨e.blk, 1, none⟩ (.int .i64 k)) := by
  obtain ⟨A, c, hb, hc, hF⟩ := h.files e he
  exact ⟨h.file he _ ⟨A, c, heap_setCell_same W e.blk 1 _ _ _ hb, hc, Kd.F_step hF (fun k hk _ => heap_setCell_other _ _ _ _ (by simp only; exact hk.2.2.2 e he))⟩ (fun k _ hk => heap_setCell_other _ _ _ _ (by simpa using hk)), (DFrame.refl _ _).set _ _ (h.own.2.2 e he)⟩
def setF (e : DEnt) (f : DFile) : DEnt := { e with file := f }
theorem updE_one (e : DEnt) (f : DFile) : updE [e] e.blk f = [setF e f] := by simp [updE, setF]
theorem up_file {O : Nat → Prop} {w w4 : World} {g M base : Nat} {room armed : Int} {down : Bool} {e : DEnt} (h : DRep O w g M room armed down [e]) (hb4 : Below w.heap.size w w4) {A4 : Option Addr} {n c4 : Nat} {l : List Int} (hR : kByt.R 5 w4 base (fun _ => True) (.slice A4 n c4) l) (hbase : w.heap.size ≤ base) (hB : ∀ k, w.heap.size ≤ k → O k) :
    DRep O ((w4.setCell ⟨e.blk, 0, none⟩ (.slice A4 n c4)).setCell ⟨e.blk, 1, none⟩ (.int .i64 n)) g M room armed down [setF e ⟨l, n⟩] ∧ DFrame O w ((w4.setCell ⟨e.blk, 0, none⟩ (.slice A4 n c4)).setCell ⟨e.blk, 1, none⟩ (.int .i64 n)) := by
  obtain ⟨h1, h2⟩ := app_file h (List.mem_singleton.2 rfl) hb4 hR hbase hB
  rw [updE_one] at h1
  obtain ⟨h3, h4⟩ := kept_set h1 (e := setF e ⟨l, e.file.kept⟩) (List.mem_singleton.2 rfl) n
  rw [updE_one] at h3
  exact ⟨h3, h2.trans h4⟩
theorem DFrame.at {O : Nat → Prop} {w w' : World} (h : DFrame O w w') {b : Nat} {v : Value} (hO : ¬ O b) (hc : w.cell? ⟨b, 0, none⟩ = some v) : w'.cell? ⟨b, 0, none⟩ = some v := by
  have hlt : b < w.heap.size := by
    rcases Nat.lt_or_ge b w.heap.size with h | h
    · exact h
    · unfold World.cell? at hc; simp [Array.getElem?_eq_none h] at hc
  have := h.block b hlt hO
  unfold World.cell? at *
  simp only [this]
  exact hc
set_option maxRecDepth 100000 in
set_option maxHeartbeats 8000000 in
theorem up_one (O : Nat → Prop) (g M : Nat) (room armed : Int) (e : DEnt) (kb ck : Nat) (n : Int) (w : World) (h : DRep O w g M room armed true [e]) (hk : w.cell? ⟨kb, 0, none⟩ = some (.int .i64 n)) (hkO : ¬ O kb) (hn1 : -9223372036854775808 ≤ n) (hn2 : n ≤ 9223372036854775807) (hs : e.name.size ≤ 9223372036854775807) (hkept : e.file.kept ≤ e.file.bytes.length) (hl : e.file.bytes.length ≤ 1000000) (hB : ∀ k, w.heap.size ≤ k → O k) :
    Calls Try.prog 19 #[.pointer (some ⟨g, 0, none⟩), .slice (some ⟨kb, 0, none⟩) 1 ck] w fun x w' => x = .returned (.tuple #[]) ∧ DRep O w' g M room (-1) false [setF e ⟨e.file.bytes.take (upN n e.file.kept e.file.bytes.length), upN n e.file.kept e.file.bytes.length⟩] ∧ DFrame O w w' := by
  have k3 := h.c3
  have k2 := h.c2
  have f3 := h.free 3
  have f2 := h.free 2
  have HD := Aside0.mk (show DRep O ((w.setCell ⟨g, 3, none⟩ (.bool false)).setCell ⟨g, 2, none⟩ (.int .i64 (-1))) g M room (-1) false [e] ∧ DFrame O w ((w.setCell ⟨g, 3, none⟩ (.bool false)).setCell ⟨g, 2, none⟩ (.int .i64 (-1))) from
    ⟨DRep.cell (DRep.cell h 3 _ (by rfl)) 2 _ (by rfl), ((DFrame.refl _ _).set _ _ h.own.1).set _ _ h.own.1⟩)
  clear h
  go_enter Try.func19, Try.ntmps19
  go_upto_block 0 with (go_at_call 25; (with_reducible refine (list_one O g M room (-1) e _ HD.out.1).mono ?_); rintro x w2 ⟨nb, cap, hnb, hnlt, rfl, hc, hb⟩)
  go_wp2
  have HF := Aside0.mk (HD.out.2.trans (DFrame.of hb))
  have HD2 := Aside0.mk (HD.out.1.below hb)
  have hkc := HF.out.at hkO hk
  have hw2 : w.heap.size ≤ w2.heap.size := HF.out.size
  go_loopw [22] (fun i wr => (i = .int .i64 0 ∧ wr = w2) ∨ (i = .int .i64 1 ∧ DRep O wr g M room (-1) false [setF e ⟨e.file.bytes.take (upN n e.file.kept e.file.bytes.length), upN n e.file.kept e.file.bytes.length⟩] ∧ DFrame O w wr)) (fun i _ => 1 - (intOf i).toNat)
  case atStart => exact .inl ⟨rfl, rfl⟩
  case round =>
    rcases hrel with ⟨rfl, rfl⟩ | ⟨rfl, h1, h2⟩
    · have k1 := HD2.out.c1
      have hl2 := HD2.out.lookP (W' := wr) (List.mem_singleton.2 rfl) hs rfl
      obtain ⟨A, c, hb2, hc2, hF⟩ := HD2.out.files e (List.mem_singleton.2 rfl)
      have HFt := Aside0.mk hF
      have g0 := cell_of_row wr _ 0 _ _ _ hb2
      have g1 := cell_of_row wr _ 1 _ _ _ hb2
      have z0 := frozen_of_row wr e.blk 0 _ _ hb2
      have z1 := frozen_of_row wr e.blk 1 _ _ hb2
      unfold ptrV at hl2
      have hmB := upN_le hn1 hkept
      have HCl := Aside0.mk (fun (W : World) (hW : Below wr.heap.size wr W) => clone_calls A (upN n e.file.kept e.file.bytes.length) c (e.file.bytes.take (upN n e.file.kept e.file.bytes.length)) W (by have := Kd.F_now (Kd.F_below (Kd.F_take HFt.out hmB.2) hW); rwa [List.length_take, Nat.min_eq_left hmB.2] at this) (by omega))
      have HM := Aside0.mk (fun (w4 : World) (hb4 : Below wr.heap.size wr w4) base A4 n4 c4 l (hR : kByt.R 5 w4 base (fun _ => True) (.slice A4 n4 c4) l) (hbase : wr.heap.size ≤ base) => up_file HD2.out hb4 hR hbase (fun k hk => hB k (by omega)))
      have HBl := Aside0.mk hb2
      clear hb2 hF
      have hP : 0 ≤ upP n := by unfold upP; split <;> omega
      obtain ⟨r, htm, hsum⟩ := rem_eq (upP n) hP e.file.kept e.file.bytes.length hkept
      have hm0 : upN n e.file.kept e.file.bytes.length = e.file.kept + (upP n % ((e.file.bytes.length - e.file.kept + 1 : Nat) : Int)).toNat := rfl
      rw [← hm0] at hsum
      clear hm0
      generalize hmm : upN n e.file.kept e.file.bytes.length = m at *
      have hnz : ¬ ((e.file.bytes.length : Int) - (e.file.kept : Int) + 1 = 0) := by omega
      have hcut := fun W => cut_run A e.file.bytes.length c (m : Int) (by omega) (by omega) W
      simp only [Int.toNat_natCast] at hcut
      have hw1 : IntKind.i64.wrap ((e.file.bytes.length : Int) - (e.file.kept : Int)) = (e.file.bytes.length : Int) - (e.file.kept : Int) := (by rw [IntKind.wrap_i64]; omega)
      have hw2 : IntKind.i64.wrap ((e.file.bytes.length : Int) - (e.file.kept : Int) + 1) = (e.file.bytes.length : Int) - (e.file.kept : Int) + 1 := (by rw [IntKind.wrap_i64]; omega)
      have hw3 : IntKind.i64.wrap (m : Int) = (m : Int) := (by rw [IntKind.wrap_i64]; omega)
      by_cases hneg : n < 0
      · have hu : upP n = -(n + 1) := by unfold upP; rw [if_pos hneg]
        rw [hu] at htm
        go_wp2
        refine start_ (S := fun W => W.cell? ⟨e.blk, 0, none⟩ = some (.slice A e.file.bytes.length c) ∧ W.cell? ⟨e.blk, 1, none⟩ = some (.int .i64 e.file.kept)) (ds := [27]) #[false, false, false, false, false, false, false, false, false, false, false, false, false, false, false, false, false, false, false, false, false, false, false, false, false, false, false, false] (by kernel_rfl) rfl rfl (And.intro g0 g1) (fun hS => ?_)
        refine take_ (i := 0) (v := .pointer (some ⟨e.blk, 0, none⟩)) #[true, false, false, false, false, false, false, false, false, false, false, false, false, false, false, false, false, false, false, false, false, false, false, false, false, false, false, false] rfl rfl (by kernel_rfl) (fun _ _ _ h => h) (Or.inl ⟨by rfl, ?_⟩) hS rfl ?_
        · (intro W hW; obtain ⟨q0, q1⟩ := hW; go_simp)
        try simp only [Act.put, List.setIfInBounds_toArray, List.set_cons_zero, List.set_cons_succ]
        refine take_ (i := 1) (v := .pointer (some ⟨e.blk, 0, none⟩)) #[true, true, false, false, false, false, false, false, false, false, false, false, false, false, false, false, false, false, false, false, false, false, false, false, false, false, false, false] rfl rfl (by kernel_rfl) (fun _ _ _ h => h) (Or.inl ⟨by rfl, ?_⟩) hS rfl ?_
        · (intro W hW; obtain ⟨q0, q1⟩ := hW; go_simp)
        try simp only [Act.put, List.setIfInBounds_toArray, List.set_cons_zero, List.set_cons_succ]
        refine take_ (i := 2) (v := .pointer (some ⟨e.blk, 0, none⟩)) #[true, true, true, false, false, false, false, false, false, false, false, false, false, false, false, false, false, false, false, false, false, false, false, false, false, false, false, false] rfl rfl (by kernel_rfl) (fun _ _ _ h => h) (Or.inl ⟨by rfl, ?_⟩) hS rfl ?_
        · (intro W hW; obtain ⟨q0, q1⟩ := hW; go_simp)
        try simp only [Act.put, List.setIfInBounds_toArray, List.set_cons_zero, List.set_cons_succ]
        refine take_ (i := 3) (v := .pointer (some ⟨e.blk, 0, none⟩)) #[true, true, true, true, false, false, false, false, false, false, false, false, false, false, false, false, false, false, false, false, false, false, false, false, false, false, false, false] rfl rfl (by kernel_rfl) (fun _ _ _ h => h) (Or.inl ⟨by rfl, ?_⟩) hS rfl ?_
        · (intro W hW; obtain ⟨q0, q1⟩ := hW; go_simp)
        try simp only [Act.put, List.setIfInBounds_toArray, List.set_cons_zero, List.set_cons_succ]
        refine take_ (i := 4) (v := .slice A e.file.bytes.length c) #[true, true, true, true, true, false, false, false, false, false, false, false, false, false, false, false, false, false, false, false, false, false, false, false, false, false, false, false] rfl rfl (by kernel_rfl) (fun _ _ _ h => h) (Or.inl ⟨by rfl, ?_⟩) hS rfl ?_
        · (intro W hW; obtain ⟨q0, q1⟩ := hW; go_simp)
        try simp only [Act.put, List.setIfInBounds_toArray, List.set_cons_zero, List.set_cons_succ]
        refine take_ (i := 5) (v := .pointer (some ⟨e.blk, 0, none⟩)) #[true, true, true, true, true, true, false, false, false, false, false, false, false, false, false, false, false, false, false, false, false, false, false, false, false, false, false, false] rfl rfl (by kernel_rfl) (fun _ _ _ h => h) (Or.inl ⟨by rfl, ?_⟩) hS rfl ?_
        · (intro W hW; obtain ⟨q0, q1⟩ := hW; go_simp)
        try simp only [Act.put, List.setIfInBounds_toArray, List.set_cons_zero, List.set_cons_succ]
        refine take_ (i := 6) (v := .pointer (some ⟨e.blk, 0, none⟩)) #[true, true, true, true, true, true, true, false, false, false, false, false, false, false, false, false, false, false, false, false, false, false, false, false, false, false, false, false] rfl rfl (by kernel_rfl) (fun _ _ _ h => h) (Or.inl ⟨by rfl, ?_⟩) hS rfl ?_
        · (intro W hW; obtain ⟨q0, q1⟩ := hW; go_simp)
        try simp only [Act.put, List.setIfInBounds_toArray, List.set_cons_zero, List.set_cons_succ]
        refine take_ (i := 7) (v := .pointer (some ⟨e.blk, 1, none⟩)) #[true, true, true, true, true, true, true, true, false, false, false, false, false, false, false, false, false, false, false, false, false, false, false, false, false, false, false, false] rfl rfl (by kernel_rfl) (fun _ _ _ h => h) (Or.inl ⟨by rfl, ?_⟩) hS rfl ?_
        · (intro W hW; obtain ⟨q0, q1⟩ := hW; go_simp)
        try simp only [Act.put, List.setIfInBounds_toArray, List.set_cons_zero, List.set_cons_succ]
        refine take_ (i := 8) (v := .int .i64 ((e.file.kept : Int))) #[true, true, true, true, true, true, true, true, true, false, false, false, false, false, false, false, false, false, false, false, false, false, false, false, false, false, false, false] rfl rfl (by kernel_rfl) (fun _ _ _ h => h) (Or.inl ⟨by rfl, ?_⟩) hS rfl ?_
        · (intro W hW; obtain ⟨q0, q1⟩ := hW; go_simp)
        try simp only [Act.put, List.setIfInBounds_toArray, List.set_cons_zero, List.set_cons_succ]
        refine take_ (i := 9) (v := .int .i64 (-(n + 1))) #[true, true, true, true, true, true, true, true, true, true, false, false, false, false, false, false, false, false, false, false, false, false, false, false, false, false, false, false] rfl rfl (by kernel_rfl) (fun _ _ _ h => h) (Or.inl ⟨by rfl, ?_⟩) hS rfl ?_
        · (intro W hW; obtain ⟨q0, q1⟩ := hW; go_simp)
        try simp only [Act.put, List.setIfInBounds_toArray, List.set_cons_zero, List.set_cons_succ]
        refine take_ (i := 10) (v := .pointer (some ⟨e.blk, 0, none⟩)) #[true, true, true, true, true, true, true, true, true, true, true, false, false, false, false, false, false, false, false, false, false, false, false, false, false, false, false, false] rfl rfl (by kernel_rfl) (fun _ _ _ h => h) (Or.inl ⟨by rfl, ?_⟩) hS rfl ?_
        · (intro W hW; obtain ⟨q0, q1⟩ := hW; go_simp)
        try simp only [Act.put, List.setIfInBounds_toArray, List.set_cons_zero, List.set_cons_succ]
        refine take_ (i := 11) (v := .pointer (some ⟨e.blk, 0, none⟩)) #[true, true, true, true, true, true, true, true, true, true, true, true, false, false, false, false, false, false, false, false, false, false, false, false, false, false, false, false] rfl rfl (by kernel_rfl) (fun _ _ _ h => h) (Or.inl ⟨by rfl, ?_⟩) hS rfl ?_
        · (intro W hW; obtain ⟨q0, q1⟩ := hW; go_simp)
        try simp only [Act.put, List.setIfInBounds_toArray, List.set_cons_zero, List.set_cons_succ]
        refine take_ (i := 12) (v := .pointer (some ⟨e.blk, 0, none⟩)) #[true, true, true, true, true, true, true, true, true, true, true, true, true, false, false, false, false, false, false, false, false, false, false, false, false, false, false, false] rfl rfl (by kernel_rfl) (fun _ _ _ h => h) (Or.inl ⟨by rfl, ?_⟩) hS rfl ?_
        · (intro W hW; obtain ⟨q0, q1⟩ := hW; go_simp)
        try simp only [Act.put, List.setIfInBounds_toArray, List.set_cons_zero, List.set_cons_succ]
        refine take_ (i := 13) (v := .slice A e.file.bytes.length c) #[true, true, true, true, true, true, true, true, true, true, true, true, true, true, false, false, false, false, false, false, false, false, false, false, false, false, false, false] rfl rfl (by kernel_rfl) (fun _ _ _ h => h) (Or.inl ⟨by rfl, ?_⟩) hS rfl ?_
        · (intro W hW; obtain ⟨q0, q1⟩ := hW; go_simp)
        try simp only [Act.put, List.setIfInBounds_toArray, List.set_cons_zero, List.set_cons_succ]
        refine take_ (i := 14) (v := .int .i64 ((e.file.bytes.length : Int))) #[true, true, true, true, true, true, true, true, true, true, true, true, true, true, true, false, false, false, false, false, false, false, false, false, false, false, false, false] rfl rfl (by kernel_rfl) (fun _ _ _ h => h) (Or.inl ⟨by rfl, ?_⟩) hS rfl ?_
        · (intro W hW; obtain ⟨q0, q1⟩ := hW; go_simp)
        try simp only [Act.put, List.setIfInBounds_toArray, List.set_cons_zero, List.set_cons_succ]
        refine take_ (i := 15) (v := .pointer (some ⟨e.blk, 0, none⟩)) #[true, true, true, true, true, true, true, true, true, true, true, true, true, true, true, true, false, false, false, false, false, false, false, false, false, false, false, false] rfl rfl (by kernel_rfl) (fun _ _ _ h => h) (Or.inl ⟨by rfl, ?_⟩) hS rfl ?_
        · (intro W hW; obtain ⟨q0, q1⟩ := hW; go_simp)
        try simp only [Act.put, List.setIfInBounds_toArray, List.set_cons_zero, List.set_cons_succ]
        refine take_ (i := 16) (v := .pointer (some ⟨e.blk, 0, none⟩)) #[true, true, true, true, true, true, true, true, true, true, true, true, true, true, true, true, true, false, false, false, false, false, false, false, false, false, false, false] rfl rfl (by kernel_rfl) (fun _ _ _ h => h) (Or.inl ⟨by rfl, ?_⟩) hS rfl ?_
        · (intro W hW; obtain ⟨q0, q1⟩ := hW; go_simp)
        try simp only [Act.put, List.setIfInBounds_toArray, List.set_cons_zero, List.set_cons_succ]
        refine take_ (i := 17) (v := .pointer (some ⟨e.blk, 1, none⟩)) #[true, true, true, true, true, true, true, true, true, true, true, true, true, true, true, true, true, true, false, false, false, false, false, false, false, false, false, false] rfl rfl (by kernel_rfl) (fun _ _ _ h => h) (Or.inl ⟨by rfl, ?_⟩) hS rfl ?_
        · (intro W hW; obtain ⟨q0, q1⟩ := hW; go_simp)
        try simp only [Act.put, List.setIfInBounds_toArray, List.set_cons_zero, List.set_cons_succ]
        refine take_ (i := 18) (v := .int .i64 ((e.file.kept : Int))) #[true, true, true, true, true, true, true, true, true, true, true, true, true, true, true, true, true, true, true, false, false, false, false, false, false, false, false, false] rfl rfl (by kernel_rfl) (fun _ _ _ h => h) (Or.inl ⟨by rfl, ?_⟩) hS rfl ?_
        · (intro W hW; obtain ⟨q0, q1⟩ := hW; go_simp)
        try simp only [Act.put, List.setIfInBounds_toArray, List.set_cons_zero, List.set_cons_succ]
        refine take_ (i := 19) (v := .int .i64 ((e.file.bytes.length : Int) - (e.file.kept : Int))) #[true, true, true, true, true, true, true, true, true, true, true, true, true, true, true, true, true, true, true, true, false, false, false, false, false, false, false, false] rfl rfl (by kernel_rfl) (fun _ _ _ h => h) (Or.inl ⟨by rfl, ?_⟩) hS rfl ?_
        · (intro W hW; obtain ⟨q0, q1⟩ := hW; go_simp)
        try simp only [Act.put, List.setIfInBounds_toArray, List.set_cons_zero, List.set_cons_succ]
        refine take_ (i := 20) (v := .int .i64 ((e.file.bytes.length : Int) - (e.file.kept : Int) + 1)) #[true, true, true, true, true, true, true, true, true, true, true, true, true, true, true, true, true, true, true, true, true, false, false, false, false, false, false, false] rfl rfl (by kernel_rfl) (fun _ _ _ h => h) (Or.inl ⟨by rfl, ?_⟩) hS rfl ?_
        · (intro W hW; obtain ⟨q0, q1⟩ := hW; go_simp)
        try simp only [Act.put, List.setIfInBounds_toArray, List.set_cons_zero, List.set_cons_succ]
        refine take_ (i := 21) (v := .int .i64 (r)) #[true, true, true, true, true, true, true, true, true, true, true, true, true, true, true, true, true, true, true, true, true, true, false, false, false, false, false, false] rfl rfl (by kernel_rfl) (fun _ _ _ h => h) (Or.inl ⟨by rfl, ?_⟩) hS rfl ?_
        · (intro W hW; obtain ⟨q0, q1⟩ := hW; go_simp)
        try simp only [Act.put, List.setIfInBounds_toArray, List.set_cons_zero, List.set_cons_succ]
        refine take_ (i := 22) (v := .int .i64 ((m : Int))) #[true, true, true, true, true, true, true, true, true, true, true, true, true, true, true, true, true, true, true, true, true, true, true, false, false, false, false, false] rfl rfl (by kernel_rfl) (fun _ _ _ h => h) (Or.inl ⟨by rfl, ?_⟩) hS rfl ?_
        · (intro W hW; obtain ⟨q0, q1⟩ := hW; go_simp)
        try simp only [Act.put, List.setIfInBounds_toArray, List.set_cons_zero, List.set_cons_succ]
        refine take_ (i := 23) (v := .slice A m c) #[true, true, true, true, true, true, true, true, true, true, true, true, true, true, true, true, true, true, true, true, true, true, true, true, false, false, false, false] rfl rfl (by kernel_rfl) (fun _ _ _ h => h) (Or.inl ⟨by rfl, ?_⟩) hS rfl ?_
        · (intro W hW; obtain ⟨q0, q1⟩ := hW; go_simp)
        try simp only [Act.put, List.setIfInBounds_toArray, List.set_cons_zero, List.set_cons_succ]
        refine one_ (i := 24) #[true, true, true, true, true, true, true, true, true, true, true, true, true, true, true, true, true, true, true, true, true, true, true, true, true, false, false, false] rfl rfl (by kernel_rfl) (by decide) (fun K hK => ?_)
        rw [if_pos (by rfl)]
        go_simp
        refine (HCl.out _ ((Below.refl _ _).drew)).mono ?_
        rintro x w3 ⟨v, rfl, hR, hb3⟩
        have HB3 := Aside0.mk (((Below.refl wr.heap.size wr).drew).trans hb3)
        obtain ⟨A4, c4, rfl⟩ := Kd.R_slice hR
        rw [List.length_take, Nat.min_eq_left hmB.2] at hR ⊢
        have f4 : w3.cell? ⟨e.blk, 0, none⟩ = some (.slice A e.file.bytes.length c) := pw_cell_below HB3.out (cell_of_row wr _ 0 _ _ _ HBl.out)
        have HR := Aside0.mk hR
        have p1 : w3.cell? ⟨e.blk, 1, none⟩ = some (.int .i64 e.file.kept) := pw_cell_below HB3.out (cell_of_row wr _ 1 _ _ _ HBl.out)
        have zf4 : w3.frozen? ⟨e.blk, 0, none⟩ = false := frozen_of_row w3 e.blk 0 _ _ ((HB3.out.block _ (Array.getElem?_eq_some_iff.1 HBl.out).1).trans HBl.out)
        have HS3 := Aside0.mk (And.intro p1 zf4)
        refine hK.out _ _ ⟨f4, p1⟩ (fun hS3 => ?_)
        try simp only [Act.put, List.setIfInBounds_toArray, List.set_cons_zero, List.set_cons_succ]
        refine take_ (i := 25) (v := .pointer (some ⟨e.blk, 0, none⟩)) #[true, true, true, true, true, true, true, true, true, true, true, true, true, true, true, true, true, true, true, true, true, true, true, true, true, true, false, false] rfl rfl (by kernel_rfl) (fun _ _ _ h => h) (Or.inl ⟨by rfl, ?_⟩) hS3 rfl ?_
        · (intro W hW; obtain ⟨q0, q1⟩ := hW; go_simp)
        try simp only [Act.put, List.setIfInBounds_toArray, List.set_cons_zero, List.set_cons_succ]
        refine take_ (i := 26) (v := .pointer (some ⟨e.blk, 0, none⟩)) #[true, true, true, true, true, true, true, true, true, true, true, true, true, true, true, true, true, true, true, true, true, true, true, true, true, true, true, false] rfl rfl (by kernel_rfl) (fun _ _ _ h => h) (Or.inl ⟨by rfl, ?_⟩) hS3 rfl ?_
        · (intro W hW; obtain ⟨q0, q1⟩ := hW; go_simp)
        try simp only [Act.put, List.setIfInBounds_toArray, List.set_cons_zero, List.set_cons_succ]
        refine last_ (i := 27) #[true, true, true, true, true, true, true, true, true, true, true, true, true, true, true, true, true, true, true, true, true, true, true, true, true, true, true, true] rfl rfl (by kernel_rfl) (by decide) (fun K2 hK2 => ?_)
        rw [if_pos (by rfl)]
        clear hK hR
        go_simp
        refine hK2.out _ _ ?_
        refine done_ (by kernel_rfl) ?_
        all_goals
          have q0 : (w3.setCell ⟨e.blk, 0, none⟩ (.slice A4 m c4)).cell? ⟨e.blk, 0, none⟩ = some (.slice A4 m c4) := World.cell?_setCell_same _ _ _ f4
          have q1 : (w3.setCell ⟨e.blk, 0, none⟩ (.slice A4 m c4)).cell? ⟨e.blk, 1, none⟩ = some (.int .i64 e.file.kept) := (World.cell?_setCell_other _ _ _ _ (by simp)).trans HS3.out.1
          have q2 : (w3.setCell ⟨e.blk, 0, none⟩ (.slice A4 m c4)).frozen? ⟨e.blk, 1, none⟩ = false := (World.frozen?_setCell ..).trans (frozen_of_row w3 e.blk 1 _ _ ((HB3.out.block _ (Array.getElem?_eq_some_iff.1 HBl.out).1).trans HBl.out))
          have HN := Aside0.mk (HM.out w3 HB3.out _ _ _ _ _ HR.out (Nat.le_refl _))
          go_wp2
          go_roundw
          case rel => exact .inr ⟨rfl, HN.out.1, HF.out.trans HN.out.2⟩
          case measure => simp [intOf]
      · have hu : upP n = n := by unfold upP; rw [if_neg hneg]
        rw [hu] at htm
        go_wp2
        refine start_ (S := fun W => W.cell? ⟨e.blk, 0, none⟩ = some (.slice A e.file.bytes.length c) ∧ W.cell? ⟨e.blk, 1, none⟩ = some (.int .i64 e.file.kept)) (ds := [27]) #[false, false, false, false, false, false, false, false, false, false, false, false, false, false, false, false, false, false, false, false, false, false, false, false, false, false, false, false] (by kernel_rfl) rfl rfl (And.intro g0 g1) (fun hS => ?_)
        refine take_ (i := 0) (v := .pointer (some ⟨e.blk, 0, none⟩)) #[true, false, false, false, false, false, false, false, false, false, false, false, false, false, false, false, false, false, false, false, false, false, false, false, false, false, false, false] rfl rfl (by kernel_rfl) (fun _ _ _ h => h) (Or.inl ⟨by rfl, ?_⟩) hS rfl ?_
        · (intro W hW; obtain ⟨q0, q1⟩ := hW; go_simp)
        try simp only [Act.put, List.setIfInBounds_toArray, List.set_cons_zero, List.set_cons_succ]
        refine take_ (i := 1) (v := .pointer (some ⟨e.blk, 0, none⟩)) #[true, true, false, false, false, false, false, false, false, false, false, false, false, false, false, false, false, false, false, false, false, false, false, false, false, false, false, false] rfl rfl (by kernel_rfl) (fun _ _ _ h => h) (Or.inl ⟨by rfl, ?_⟩) hS rfl ?_
        · (intro W hW; obtain ⟨q0, q1⟩ := hW; go_simp)
        try simp only [Act.put, List.setIfInBounds_toArray, List.set_cons_zero, List.set_cons_succ]
        refine take_ (i := 2) (v := .pointer (some ⟨e.blk, 0, none⟩)) #[true, true, true, false, false, false, false, false, false, false, false, false, false, false, false, false, false, false, false, false, false, false, false, false, false, false, false, false] rfl rfl (by kernel_rfl) (fun _ _ _ h => h) (Or.inl ⟨by rfl, ?_⟩) hS rfl ?_
        · (intro W hW; obtain ⟨q0, q1⟩ := hW; go_simp)
        try simp only [Act.put, List.setIfInBounds_toArray, List.set_cons_zero, List.set_cons_succ]
        refine take_ (i := 3) (v := .pointer (some ⟨e.blk, 0, none⟩)) #[true, true, true, true, false, false, false, false, false, false, false, false, false, false, false, false, false, false, false, false, false, false, false, false, false, false, false, false] rfl rfl (by kernel_rfl) (fun _ _ _ h => h) (Or.inl ⟨by rfl, ?_⟩) hS rfl ?_
        · (intro W hW; obtain ⟨q0, q1⟩ := hW; go_simp)
        try simp only [Act.put, List.setIfInBounds_toArray, List.set_cons_zero, List.set_cons_succ]
        refine take_ (i := 4) (v := .slice A e.file.bytes.length c) #[true, true, true, true, true, false, false, false, false, false, false, false, false, false, false, false, false, false, false, false, false, false, false, false, false, false, false, false] rfl rfl (by kernel_rfl) (fun _ _ _ h => h) (Or.inl ⟨by rfl, ?_⟩) hS rfl ?_
        · (intro W hW; obtain ⟨q0, q1⟩ := hW; go_simp)
        try simp only [Act.put, List.setIfInBounds_toArray, List.set_cons_zero, List.set_cons_succ]
        refine take_ (i := 5) (v := .pointer (some ⟨e.blk, 0, none⟩)) #[true, true, true, true, true, true, false, false, false, false, false, false, false, false, false, false, false, false, false, false, false, false, false, false, false, false, false, false] rfl rfl (by kernel_rfl) (fun _ _ _ h => h) (Or.inl ⟨by rfl, ?_⟩) hS rfl ?_
        · (intro W hW; obtain ⟨q0, q1⟩ := hW; go_simp)
        try simp only [Act.put, List.setIfInBounds_toArray, List.set_cons_zero, List.set_cons_succ]
        refine take_ (i := 6) (v := .pointer (some ⟨e.blk, 0, none⟩)) #[true, true, true, true, true, true, true, false, false, false, false, false, false, false, false, false, false, false, false, false, false, false, false, false, false, false, false, false] rfl rfl (by kernel_rfl) (fun _ _ _ h => h) (Or.inl ⟨by rfl, ?_⟩) hS rfl ?_
        · (intro W hW; obtain ⟨q0, q1⟩ := hW; go_simp)
        try simp only [Act.put, List.setIfInBounds_toArray, List.set_cons_zero, List.set_cons_succ]
        refine take_ (i := 7) (v := .pointer (some ⟨e.blk, 1, none⟩)) #[true, true, true, true, true, true, true, true, false, false, false, false, false, false, false, false, false, false, false, false, false, false, false, false, false, false, false, false] rfl rfl (by kernel_rfl) (fun _ _ _ h => h) (Or.inl ⟨by rfl, ?_⟩) hS rfl ?_
        · (intro W hW; obtain ⟨q0, q1⟩ := hW; go_simp)
        try simp only [Act.put, List.setIfInBounds_toArray, List.set_cons_zero, List.set_cons_succ]
        refine take_ (i := 8) (v := .int .i64 ((e.file.kept : Int))) #[true, true, true, true, true, true, true, true, true, false, false, false, false, false, false, false, false, false, false, false, false, false, false, false, false, false, false, false] rfl rfl (by kernel_rfl) (fun _ _ _ h => h) (Or.inl ⟨by rfl, ?_⟩) hS rfl ?_
        · (intro W hW; obtain ⟨q0, q1⟩ := hW; go_simp)
        try simp only [Act.put, List.setIfInBounds_toArray, List.set_cons_zero, List.set_cons_succ]
        refine take_ (i := 9) (v := .int .i64 (n)) #[true, true, true, true, true, true, true, true, true, true, false, false, false, false, false, false, false, false, false, false, false, false, false, false, false, false, false, false] rfl rfl (by kernel_rfl) (fun _ _ _ h => h) (Or.inl ⟨by rfl, ?_⟩) hS rfl ?_
        · (intro W hW; obtain ⟨q0, q1⟩ := hW; go_simp)
        try simp only [Act.put, List.setIfInBounds_toArray, List.set_cons_zero, List.set_cons_succ]
        refine take_ (i := 10) (v := .pointer (some ⟨e.blk, 0, none⟩)) #[true, true, true, true, true, true, true, true, true, true, true, false, false, false, false, false, false, false, false, false, false, false, false, false, false, false, false, false] rfl rfl (by kernel_rfl) (fun _ _ _ h => h) (Or.inl ⟨by rfl, ?_⟩) hS rfl ?_
        · (intro W hW; obtain ⟨q0, q1⟩ := hW; go_simp)
        try simp only [Act.put, List.setIfInBounds_toArray, List.set_cons_zero, List.set_cons_succ]
        refine take_ (i := 11) (v := .pointer (some ⟨e.blk, 0, none⟩)) #[true, true, true, true, true, true, true, true, true, true, true, true, false, false, false, false, false, false, false, false, false, false, false, false, false, false, false, false] rfl rfl (by kernel_rfl) (fun _ _ _ h => h) (Or.inl ⟨by rfl, ?_⟩) hS rfl ?_
        · (intro W hW; obtain ⟨q0, q1⟩ := hW; go_simp)
        try simp only [Act.put, List.setIfInBounds_toArray, List.set_cons_zero, List.set_cons_succ]
        refine take_ (i := 12) (v := .pointer (some ⟨e.blk, 0, none⟩)) #[true, true, true, true, true, true, true, true, true, true, true, true, true, false, false, false, false, false, false, false, false, false, false, false, false, false, false, false] rfl rfl (by kernel_rfl) (fun _ _ _ h => h) (Or.inl ⟨by rfl, ?_⟩) hS rfl ?_
        · (intro W hW; obtain ⟨q0, q1⟩ := hW; go_simp)
        try simp only [Act.put, List.setIfInBounds_toArray, List.set_cons_zero, List.set_cons_succ]
        refine take_ (i := 13) (v := .slice A e.file.bytes.length c) #[true, true, true, true, true, true, true, true, true, true, true, true, true, true, false, false, false, false, false, false, false, false, false, false, false, false, false, false] rfl rfl (by kernel_rfl) (fun _ _ _ h => h) (Or.inl ⟨by rfl, ?_⟩) hS rfl ?_
        · (intro W hW; obtain ⟨q0, q1⟩ := hW; go_simp)
        try simp only [Act.put, List.setIfInBounds_toArray, List.set_cons_zero, List.set_cons_succ]
        refine take_ (i := 14) (v := .int .i64 ((e.file.bytes.length : Int))) #[true, true, true, true, true, true, true, true, true, true, true, true, true, true, true, false, false, false, false, false, false, false, false, false, false, false, false, false] rfl rfl (by kernel_rfl) (fun _ _ _ h => h) (Or.inl ⟨by rfl, ?_⟩) hS rfl ?_
        · (intro W hW; obtain ⟨q0, q1⟩ := hW; go_simp)
        try simp only [Act.put, List.setIfInBounds_toArray, List.set_cons_zero, List.set_cons_succ]
        refine take_ (i := 15) (v := .pointer (some ⟨e.blk, 0, none⟩)) #[true, true, true, true, true, true, true, true, true, true, true, true, true, true, true, true, false, false, false, false, false, false, false, false, false, false, false, false] rfl rfl (by kernel_rfl) (fun _ _ _ h => h) (Or.inl ⟨by rfl, ?_⟩) hS rfl ?_
        · (intro W hW; obtain ⟨q0, q1⟩ := hW; go_simp)
        try simp only [Act.put, List.setIfInBounds_toArray, List.set_cons_zero, List.set_cons_succ]
        refine take_ (i := 16) (v := .pointer (some ⟨e.blk, 0, none⟩)) #[true, true, true, true, true, true, true, true, true, true, true, true, true, true, true, true, true, false, false, false, false, false, false, false, false, false, false, false] rfl rfl (by kernel_rfl) (fun _ _ _ h => h) (Or.inl ⟨by rfl, ?_⟩) hS rfl ?_
        · (intro W hW; obtain ⟨q0, q1⟩ := hW; go_simp)
        try simp only [Act.put, List.setIfInBounds_toArray, List.set_cons_zero, List.set_cons_succ]
        refine take_ (i := 17) (v := .pointer (some ⟨e.blk, 1, none⟩)) #[true, true, true, true, true, true, true, true, true, true, true, true, true, true, true, true, true, true, false, false, false, false, false, false, false, false, false, false] rfl rfl (by kernel_rfl) (fun _ _ _ h => h) (Or.inl ⟨by rfl, ?_⟩) hS rfl ?_
        · (intro W hW; obtain ⟨q0, q1⟩ := hW; go_simp)
        try simp only [Act.put, List.setIfInBounds_toArray, List.set_cons_zero, List.set_cons_succ]
        refine take_ (i := 18) (v := .int .i64 ((e.file.kept : Int))) #[true, true, true, true, true, true, true, true, true, true, true, true, true, true, true, true, true, true, true, false, false, false, false, false, false, false, false, false] rfl rfl (by kernel_rfl) (fun _ _ _ h => h) (Or.inl ⟨by rfl, ?_⟩) hS rfl ?_
        · (intro W hW; obtain ⟨q0, q1⟩ := hW; go_simp)
        try simp only [Act.put, List.setIfInBounds_toArray, List.set_cons_zero, List.set_cons_succ]
        refine take_ (i := 19) (v := .int .i64 ((e.file.bytes.length : Int) - (e.file.kept : Int))) #[true, true, true, true, true, true, true, true, true, true, true, true, true, true, true, true, true, true, true, true, false, false, false, false, false, false, false, false] rfl rfl (by kernel_rfl) (fun _ _ _ h => h) (Or.inl ⟨by rfl, ?_⟩) hS rfl ?_
        · (intro W hW; obtain ⟨q0, q1⟩ := hW; go_simp)
        try simp only [Act.put, List.setIfInBounds_toArray, List.set_cons_zero, List.set_cons_succ]
        refine take_ (i := 20) (v := .int .i64 ((e.file.bytes.length : Int) - (e.file.kept : Int) + 1)) #[true, true, true, true, true, true, true, true, true, true, true, true, true, true, true, true, true, true, true, true, true, false, false, false, false, false, false, false] rfl rfl (by kernel_rfl) (fun _ _ _ h => h) (Or.inl ⟨by rfl, ?_⟩) hS rfl ?_
        · (intro W hW; obtain ⟨q0, q1⟩ := hW; go_simp)
        try simp only [Act.put, List.setIfInBounds_toArray, List.set_cons_zero, List.set_cons_succ]
        refine take_ (i := 21) (v := .int .i64 (r)) #[true, true, true, true, true, true, true, true, true, true, true, true, true, true, true, true, true, true, true, true, true, true, false, false, false, false, false, false] rfl rfl (by kernel_rfl) (fun _ _ _ h => h) (Or.inl ⟨by rfl, ?_⟩) hS rfl ?_
        · (intro W hW; obtain ⟨q0, q1⟩ := hW; go_simp)
        try simp only [Act.put, List.setIfInBounds_toArray, List.set_cons_zero, List.set_cons_succ]
        refine take_ (i := 22) (v := .int .i64 ((m : Int))) #[true, true, true, true, true, true, true, true, true, true, true, true, true, true, true, true, true, true, true, true, true, true, true, false, false, false, false, false] rfl rfl (by kernel_rfl) (fun _ _ _ h => h) (Or.inl ⟨by rfl, ?_⟩) hS rfl ?_
        · (intro W hW; obtain ⟨q0, q1⟩ := hW; go_simp)
        try simp only [Act.put, List.setIfInBounds_toArray, List.set_cons_zero, List.set_cons_succ]
        refine take_ (i := 23) (v := .slice A m c) #[true, true, true, true, true, true, true, true, true, true, true, true, true, true, true, true, true, true, true, true, true, true, true, true, false, false, false, false] rfl rfl (by kernel_rfl) (fun _ _ _ h => h) (Or.inl ⟨by rfl, ?_⟩) hS rfl ?_
        · (intro W hW; obtain ⟨q0, q1⟩ := hW; go_simp)
        try simp only [Act.put, List.setIfInBounds_toArray, List.set_cons_zero, List.set_cons_succ]
        refine one_ (i := 24) #[true, true, true, true, true, true, true, true, true, true, true, true, true, true, true, true, true, true, true, true, true, true, true, true, true, false, false, false] rfl rfl (by kernel_rfl) (by decide) (fun K hK => ?_)
        rw [if_pos (by rfl)]
        go_simp
        refine (HCl.out _ ((Below.refl _ _).drew)).mono ?_
        rintro x w3 ⟨v, rfl, hR, hb3⟩
        have HB3 := Aside0.mk (((Below.refl wr.heap.size wr).drew).trans hb3)
        obtain ⟨A4, c4, rfl⟩ := Kd.R_slice hR
        rw [List.length_take, Nat.min_eq_left hmB.2] at hR ⊢
        have f4 : w3.cell? ⟨e.blk, 0, none⟩ = some (.slice A e.file.bytes.length c) := pw_cell_below HB3.out (cell_of_row wr _ 0 _ _ _ HBl.out)
        have HR := Aside0.mk hR
        have p1 : w3.cell? ⟨e.blk, 1, none⟩ = some (.int .i64 e.file.kept) := pw_cell_below HB3.out (cell_of_row wr _ 1 _ _ _ HBl.out)
        have zf4 : w3.frozen? ⟨e.blk, 0, none⟩ = false := frozen_of_row w3 e.blk 0 _ _ ((HB3.out.block _ (Array.getElem?_eq_some_iff.1 HBl.out).1).trans HBl.out)
        have HS3 := Aside0.mk (And.intro p1 zf4)
        refine hK.out _ _ ⟨f4, p1⟩ (fun hS3 => ?_)
        try simp only [Act.put, List.setIfInBounds_toArray, List.set_cons_zero, List.set_cons_succ]
        refine take_ (i := 25) (v := .pointer (some ⟨e.blk, 0, none⟩)) #[true, true, true, true, true, true, true, true, true, true, true, true, true, true, true, true, true, true, true, true, true, true, true, true, true, true, false, false] rfl rfl (by kernel_rfl) (fun _ _ _ h => h) (Or.inl ⟨by rfl, ?_⟩) hS3 rfl ?_
        · (intro W hW; obtain ⟨q0, q1⟩ := hW; go_simp)
        try simp only [Act.put, List.setIfInBounds_toArray, List.set_cons_zero, List.set_cons_succ]
        refine take_ (i := 26) (v := .pointer (some ⟨e.blk, 0, none⟩)) #[true, true, true, true, true, true, true, true, true, true, true, true, true, true, true, true, true, true, true, true, true, true, true, true, true, true, true, false] rfl rfl (by kernel_rfl) (fun _ _ _ h => h) (Or.inl ⟨by rfl, ?_⟩) hS3 rfl ?_
        · (intro W hW; obtain ⟨q0, q1⟩ := hW; go_simp)
        try simp only [Act.put, List.setIfInBounds_toArray, List.set_cons_zero, List.set_cons_succ]
        refine last_ (i := 27) #[true, true, true, true, true, true, true, true, true, true, true, true, true, true, true, true, true, true, true, true, true, true, true, true, true, true, true, true] rfl rfl (by kernel_rfl) (by decide) (fun K2 hK2 => ?_)
        rw [if_pos (by rfl)]
        clear hK hR
        go_simp
        refine hK2.out _ _ ?_
        refine done_ (by kernel_rfl) ?_
        all_goals
          have q0 : (w3.setCell ⟨e.blk, 0, none⟩ (.slice A4 m c4)).cell? ⟨e.blk, 0, none⟩ = some (.slice A4 m c4) := World.cell?_setCell_same _ _ _ f4
          have q1 : (w3.setCell ⟨e.blk, 0, none⟩ (.slice A4 m c4)).cell? ⟨e.blk, 1, none⟩ = some (.int .i64 e.file.kept) := (World.cell?_setCell_other _ _ _ _ (by simp)).trans HS3.out.1
          have q2 : (w3.setCell ⟨e.blk, 0, none⟩ (.slice A4 m c4)).frozen? ⟨e.blk, 1, none⟩ = false := (World.frozen?_setCell ..).trans (frozen_of_row w3 e.blk 1 _ _ ((HB3.out.block _ (Array.getElem?_eq_some_iff.1 HBl.out).1).trans HBl.out))
          have HN := Aside0.mk (HM.out w3 HB3.out _ _ _ _ _ HR.out (Nat.le_refl _))
          go_wp2
          go_roundw
          case rel => exact .inr ⟨rfl, HN.out.1, HF.out.trans HN.out.2⟩
          case measure => simp [intOf]
    · go_wp2
      go_end0
      exact ⟨rfl, h1, h2⟩
end Go.Proofs.Ytbndgnbhmifefaa
