/- The law's like: told true of a disk and a reference that are alike. -/
import Derived.Test.YtbndgnbhmifefaaPlAsk
namespace Go.Proofs.Ytbndgnbhmifefaa
open Go.RowKit Go.Proofs.YtbndgnbhmifefaaW.PrintWords Go.Proofs.YtbndgnbhmifefaaW.PrintMore
open Go.Proofs.YtbndgnbhmifefaaW.PrintLast (start_ take_ one_ last_ done_ goes_)
set_option linter.unusedVariables false
set_option linter.unusedSimpArgs false
variable {P : Nat → Prop} {gd M gr : Nat} {d : DS} {r : RS}
theorem list_q (w : World) (h : Pair P w gd M gr d r) (hd : d.down = true) :
    Calls Try.prog 25 #[.pointer (some ⟨gd, 0, none⟩)] w fun x w' => x = .returned (.slice none 0 0) ∧ w' = w := by
  obtain ⟨O, E, h1, h2⟩ := namesOf h
  rw [hd] at h2
  have k3 := h2.c3
  clear h2 h1 hd h
  go_enter Try.func25, Try.ntmps25
  go_wp2
  go_ret
  exact ⟨rfl, rfl⟩
set_option maxRecDepth 100000 in
set_option maxHeartbeats 4000000 in
theorem like_gone (w : World) (h : Pair P w gd M gr d r) (hl : Like d r) (hd : d.down = true) :
    Calls Try.prog 23 #[.pointer (some ⟨gd, 0, none⟩), .pointer (some ⟨gr, 0, none⟩)] w fun x w' => x = .returned (.bool true) ∧ Below w.heap.size w w' := by
  obtain ⟨Q, hR⟩ := h.rrep
  obtain ⟨A, c, hk⟩ := hR.look
  have c3 := hk.c3
  rw [← hl.gone, hd] at c3
  have HP := Aside0.mk h
  have L1 := Aside0.mk (list_q w h hd)
  have L2 := Aside0.mk (fun W (hb : Below w.heap.size w W) => down_p W (h.below hb))
  rw [hd] at L2
  have L3 := Aside0.mk (fun W (hb : Below w.heap.size w W) => free_p W (h.below hb) (by rw [hl.room]; exact hl.r0) (by rw [hl.room]; exact hl.r1) (by rw [like_total hl]; exact bytes_le hl))
  have L4 := Aside0.mk (fun W (hb : Below w.heap.size w W) => rfree_p W (h.below hb) hl)
  generalize d.room - (totalL d.L : Int) = fr at *
  clear h hl hd hR hk
  go_enter Try.func23, Try.ntmps23
  go_wp2_with (go_at_call 25; (with_reducible refine (L1.out).mono ?_); rintro x w' ⟨rfl, hw'⟩; have hw2 := hw'.symm; clear hw'; subst hw2)
  go_region_held3 (fun W => W.cell? ⟨gr, 3, none⟩ = some (.bool true))
    (first | assumption | exact HS6.out | exact HS7.out | go_keep)
    (first
    | (go_at_call 18; (with_reducible refine (L2.out _ ((Below.refl _ _).drew)).mono ?_); rintro x w' ⟨rfl, hw'⟩; have hw2 := hw'.symm; clear hw'; subst hw2)
    | (go_at_call 14; (with_reducible refine (L3.out _ ((Below.refl _ _).drew)).mono ?_); rintro x w6 ⟨rfl, hb6⟩; have hb7 := ((Below.refl w.heap.size w).drew).trans hb6; have HB6 := Aside0.mk hb7; have HS6 := Aside0.mk (pw_cell_below hb7 c3); clear hb6 hb7)
    | (go_at_call 38; (with_reducible refine (L4.out _ HB6.out).mono ?_); rintro x w7 ⟨rfl, hb6⟩; have hb7 := below_more HB6.out hb6; have HB7 := Aside0.mk hb7; have HS7 := Aside0.mk (pw_cell_below hb7 c3); clear hb6 hb7))
  have q3 := HS7.out
  go_wp2_with fail
  go_ret
  exact ⟨rfl, HB7.out⟩
theorem like_read {s : ByteArray} {k : Nat} (hl : Like d r) (hd : d.down = false) (hk : k < r.L.length) (hs : (rdRF r.L k).name = s) : mayS d true [s] = 0 := by
  rw [may1 hl, ← hl.gone, hd]
  have h1 : namedB s = true := by rw [← hs, rd_get hk]; exact hl.named _ (List.getElem_mem hk)
  have h2 : hasR r.L s = true := by
    unfold hasR
    rw [List.any_eq_true]
    exact ⟨rdRF r.L k, by rw [rd_get hk]; exact List.getElem_mem hk, by simpa using hs⟩
  rw [bad1, h1, h2]
  rfl
theorem name_size {f : RF} (hl : Like d r) (hf : f ∈ r.L) : f.name.size ≤ 9223372036854775807 := by
  have h4 := hl.named f hf
  unfold namedB at h4
  simp only [Bool.and_eq_true, decide_eq_true_eq] at h4
  omega
set_option maxRecDepth 100000 in
set_option maxHeartbeats 8000000 in
theorem like_here (w : World) (h : Pair P w gd M gr d r) (hl : Like d r) (hn : r.L.length ≤ 1000) (hd : d.down = false) :
    Calls Try.prog 23 #[.pointer (some ⟨gd, 0, none⟩), .pointer (some ⟨gr, 0, none⟩)] w fun x w' => x = .returned (.bool true) ∧ Below w.heap.size w w' := by
  obtain ⟨Q, hR⟩ := h.rrep
  obtain ⟨A, c, hk⟩ := hR.look
  have c3 := hk.c3
  have c1 := hk.c1
  rw [← hl.gone, hd] at c3
  have HP := Aside0.mk h
  have HC := Aside0.mk hk.hC
  have L1 := Aside0.mk (list_p w h hd (by rw [like_len hl]; omega))
  have hN := names_of hl
  rw [hN] at L1
  have L2 := Aside0.mk (fun W (hb : Below w.heap.size w W) => down_p W (h.below hb))
  rw [hd] at L2
  have L3 := Aside0.mk (fun W (hb : Below w.heap.size w W) => free_p W (h.below hb) (by rw [hl.room]; exact hl.r0) (by rw [hl.room]; exact hl.r1) (by rw [like_total hl]; exact bytes_le hl))
  have L4 := Aside0.mk (fun W (hb : Below w.heap.size w W) => rfree_p W (h.below hb) hl)
  generalize d.room - (totalL d.L : Int) = fr at *
  have hfr : (fr != fr) = false := by simp
  have HRd := Aside0.mk (fun (k : Nat) (hk : k < r.L.length) W (hb : Below w.heap.size w W) => read_p (name_size hl (f := rdRF r.L k) (by rw [rd_get hk]; exact List.getElem_mem hk)) W (h.below hb) (like_read hl hd hk rfl) (by rw [like_total hl]; exact bytes_le hl))
  have HGt := Aside0.mk (fun (k : Nat) (hk : k < r.L.length) => hl.get hk)
  have HBy := Aside0.mk (fun (k : Nat) (hk : k < r.L.length) => (Nat.le_trans (bytesR_at hk) (bytes_le hl)))
  have hkl : (r.L.map key).length = r.L.length := List.length_map ..
  have HE := Aside0.mk (fun (k : Nat) (hk : k < r.L.length) (hk' : k < (r.L.map key).length) => (show encStr ((r.L.map key)[k]) = .string (rdRF r.L k).name from by rw [List.getElem_map, rd_get hk]))
  clear h hl hd hR hk hN
  go_enter Try.func23, Try.ntmps23
  go_wp2_with (go_at_call 25; (with_reducible refine (L1.out).mono ?_); rintro x w1 ⟨v, base, hbase, rfl, hrow, hb1⟩; obtain ⟨LA, lc, rfl, hcells⟩ := row_form hrow)
  have HCe := Aside0.mk hcells
  have HKL := Aside0.mk hkl
  have d3 := pw_cell_below hb1 c3
  have d1 := pw_cell_below hb1 c1
  have HB1 := Aside0.mk hb1
  clear hrow hcells hbase hkl hb1 c3 c1
  refine start_ (S := fun W => W.cell? ⟨gr, 3, none⟩ = some (.bool false)) (ds := []) #[false, false, false, false, false, false, false, false, false, false, false, false, false, false, false, false, false, false, false, false, false, false, false, false, false] (by kernel_rfl) rfl rfl (by go_simp) (fun hS => ?_)
  refine take_ (i := 0) (N := some 11) (v := .pointer (some ⟨gd, 0, none⟩)) #[true, false, false, false, false, false, false, false, false, false, false, false, false, false, false, false, false, false, false, false, false, false, false, false, false] rfl rfl (by kernel_rfl) (fun _ _ _ h => h) (Or.inl ⟨by kernel_rfl, ?_⟩) hS rfl ?_
  · (intro W hW; go_simp)
  try simp only [Act.put, List.setIfInBounds_toArray, List.set_cons_zero, List.set_cons_succ]
  refine take_ (i := 2) (N := some 13) (v := .pointer (some ⟨gr, 0, none⟩)) #[true, false, true, false, false, false, false, false, false, false, false, false, false, false, false, false, false, false, false, false, false, false, false, false, false] rfl rfl (by kernel_rfl) (fun _ _ _ h => h) (Or.inl ⟨by kernel_rfl, ?_⟩) hS rfl ?_
  · (intro W hW; go_simp)
  try simp only [Act.put, List.setIfInBounds_toArray, List.set_cons_zero, List.set_cons_succ]
  refine take_ (i := 3) (N := some 14) (v := .pointer (some ⟨gr, 0, none⟩)) #[true, false, true, true, false, false, false, false, false, false, false, false, false, false, false, false, false, false, false, false, false, false, false, false, false] rfl rfl (by kernel_rfl) (fun _ _ _ h => h) (Or.inl ⟨by kernel_rfl, ?_⟩) hS rfl ?_
  · (intro W hW; go_simp)
  try simp only [Act.put, List.setIfInBounds_toArray, List.set_cons_zero, List.set_cons_succ]
  refine take_ (i := 4) (N := some 15) (v := .pointer (some ⟨gr, 3, none⟩)) #[true, false, true, true, true, false, false, false, false, false, false, false, false, false, false, false, false, false, false, false, false, false, false, false, false] rfl rfl (by kernel_rfl) (fun _ _ _ h => h) (Or.inl ⟨by kernel_rfl, ?_⟩) hS rfl ?_
  · (intro W hW; go_simp)
  try simp only [Act.put, List.setIfInBounds_toArray, List.set_cons_zero, List.set_cons_succ]
  refine take_ (i := 5) (N := some 16) (v := .bool false) #[true, false, true, true, true, true, false, false, false, false, false, false, false, false, false, false, false, false, false, false, false, false, false, false, false] rfl rfl (by kernel_rfl) (fun _ _ _ h => h) (Or.inl ⟨by kernel_rfl, ?_⟩) hS rfl ?_
  · (intro W hW; go_simp)
  try simp only [Act.put, List.setIfInBounds_toArray, List.set_cons_zero, List.set_cons_succ]
  refine one_ (i := 1) (N := some 12) #[true, true, true, true, true, true, false, false, false, false, false, false, false, false, false, false, false, false, false, false, false, false, false, false, false] rfl rfl (by kernel_rfl) (by decide) (fun K hK => ?_)
  rw [if_pos (by kernel_rfl)]
  go_simp
  refine (L2.out _ (below_more HB1.out ((Below.refl _ _).drew))).mono ?_
  rintro x w' ⟨rfl, hw'⟩
  have hw2 := hw'.symm; clear hw'; subst hw2
  refine hK.out _ _ hS (fun hS1 => ?_)
  clear hK
  try simp only [Act.put, List.setIfInBounds_toArray, List.set_cons_zero, List.set_cons_succ]
  refine take_ (i := 6) (N := some 17) (v := .bool false) #[true, true, true, true, true, true, true, false, false, false, false, false, false, false, false, false, false, false, false, false, false, false, false, false, false] rfl rfl (by kernel_rfl) (fun _ _ _ h => h) (Or.inl ⟨by kernel_rfl, ?_⟩) hS1 rfl ?_
  · (intro W hW; go_simp)
  try simp only [Act.put, List.setIfInBounds_toArray, List.set_cons_zero, List.set_cons_succ]
  refine take_ (i := 7) (N := some 18) (v := .bool false) #[true, true, true, true, true, true, true, true, false, false, false, false, false, false, false, false, false, false, false, false, false, false, false, false, false] rfl rfl (by kernel_rfl) (fun _ _ _ h => h) (Or.inl ⟨by kernel_rfl, ?_⟩) hS1 rfl ?_
  · (intro W hW; go_simp)
  try simp only [Act.put, List.setIfInBounds_toArray, List.set_cons_zero, List.set_cons_succ]
  refine take_ (i := 8) (N := some 19) (v := .pointer (some ⟨gd, 0, none⟩)) #[true, true, true, true, true, true, true, true, true, false, false, false, false, false, false, false, false, false, false, false, false, false, false, false, false] rfl rfl (by kernel_rfl) (fun _ _ _ h => h) (Or.inl ⟨by kernel_rfl, ?_⟩) hS1 rfl ?_
  · (intro W hW; go_simp)
  try simp only [Act.put, List.setIfInBounds_toArray, List.set_cons_zero, List.set_cons_succ]
  refine take_ (i := 10) (N := some 21) (v := .pointer (some ⟨gr, 0, none⟩)) #[true, true, true, true, true, true, true, true, true, false, true, false, false, false, false, false, false, false, false, false, false, false, false, false, false] rfl rfl (by kernel_rfl) (fun _ _ _ h => h) (Or.inl ⟨by kernel_rfl, ?_⟩) hS1 rfl ?_
  · (intro W hW; go_simp)
  try simp only [Act.put, List.setIfInBounds_toArray, List.set_cons_zero, List.set_cons_succ]
  refine one_ (i := 9) (N := some 20) #[true, true, true, true, true, true, true, true, true, true, true, false, false, false, false, false, false, false, false, false, false, false, false, false, false] rfl rfl (by kernel_rfl) (by decide) (fun K hK => ?_)
  rw [if_pos (by kernel_rfl)]
  go_simp
  refine (L3.out _ (below_more HB1.out ((Below.refl _ _).drew))).mono ?_
  rintro x w6 ⟨rfl, hb6⟩
  have hb7 := ((Below.refl w1.heap.size w1).drew).trans hb6; have HB6 := Aside0.mk hb7; have HS6 := Aside0.mk (pw_cell_below hb7 d3); clear hb6 hb7
  refine hK.out _ _ HS6.out (fun hS2 => ?_)
  clear hK
  try simp only [Act.put, List.setIfInBounds_toArray, List.set_cons_zero, List.set_cons_succ]
  refine one_ (i := 11) (N := some 22) #[true, true, true, true, true, true, true, true, true, true, true, true, false, false, false, false, false, false, false, false, false, false, false, false, false] rfl rfl (by kernel_rfl) (by decide) (fun K hK => ?_)
  rw [if_pos (by kernel_rfl)]
  go_simp
  refine (L4.out _ (below_more HB1.out HB6.out)).mono ?_
  rintro x w7 ⟨rfl, hb6⟩
  have hb7 := below_more HB6.out hb6; have HB7 := Aside0.mk hb7; have HS7 := Aside0.mk (pw_cell_below hb7 d3); clear hb6 hb7
  refine hK.out _ _ HS7.out (fun hS3 => ?_)
  clear hK
  try simp only [Act.put, List.setIfInBounds_toArray, List.set_cons_zero, List.set_cons_succ]
  refine take_ (i := 12) (N := some 23) (v := .bool false) #[true, true, true, true, true, true, true, true, true, true, true, true, true, false, false, false, false, false, false, false, false, false, false, false, false] rfl rfl (by kernel_rfl) (fun _ _ _ h => h) (Or.inl ⟨by kernel_rfl, ?_⟩) hS3 rfl ?_
  · (intro W hW; go_simp)
  try simp only [Act.put, List.setIfInBounds_toArray, List.set_cons_zero, List.set_cons_succ]
  refine take_ (i := 13) (N := some 24) (v := .bool false) #[true, true, true, true, true, true, true, true, true, true, true, true, true, true, false, false, false, false, false, false, false, false, false, false, false] rfl rfl (by kernel_rfl) (fun _ _ _ h => h) (Or.inl ⟨by kernel_rfl, ?_⟩) hS3 rfl ?_
  · (intro W hW; go_simp)
  try simp only [Act.put, List.setIfInBounds_toArray, List.set_cons_zero, List.set_cons_succ]
  refine take_ (i := 14) (N := some 25) (v := .bool false) #[true, true, true, true, true, true, true, true, true, true, true, true, true, true, true, false, false, false, false, false, false, false, false, false, false] rfl rfl (by kernel_rfl) (fun _ _ _ h => h) (Or.inl ⟨by kernel_rfl, ?_⟩) hS3 rfl ?_
  · (intro W hW; go_simp)
  try simp only [Act.put, List.setIfInBounds_toArray, List.set_cons_zero, List.set_cons_succ]
  refine take_ (i := 15) (N := some 26) (v := .pointer (some ⟨gr, 0, none⟩)) #[true, true, true, true, true, true, true, true, true, true, true, true, true, true, true, true, false, false, false, false, false, false, false, false, false] rfl rfl (by kernel_rfl) (fun _ _ _ h => h) (Or.inl ⟨by kernel_rfl, ?_⟩) hS3 rfl ?_
  · (intro W hW; go_simp)
  try simp only [Act.put, List.setIfInBounds_toArray, List.set_cons_zero, List.set_cons_succ]
  refine take_ (i := 16) (N := some 27) (v := .pointer (some ⟨gr, 0, none⟩)) #[true, true, true, true, true, true, true, true, true, true, true, true, true, true, true, true, true, false, false, false, false, false, false, false, false] rfl rfl (by kernel_rfl) (fun _ _ _ h => h) (Or.inl ⟨by kernel_rfl, ?_⟩) hS3 rfl ?_
  · (intro W hW; go_simp)
  try simp only [Act.put, List.setIfInBounds_toArray, List.set_cons_zero, List.set_cons_succ]
  refine take_ (i := 17) (N := some 28) (v := .pointer (some ⟨gr, 3, none⟩)) #[true, true, true, true, true, true, true, true, true, true, true, true, true, true, true, true, true, true, false, false, false, false, false, false, false] rfl rfl (by kernel_rfl) (fun _ _ _ h => h) (Or.inl ⟨by kernel_rfl, ?_⟩) hS3 rfl ?_
  · (intro W hW; go_simp)
  try simp only [Act.put, List.setIfInBounds_toArray, List.set_cons_zero, List.set_cons_succ]
  refine take_ (i := 18) (N := some 29) (v := .bool false) #[true, true, true, true, true, true, true, true, true, true, true, true, true, true, true, true, true, true, true, false, false, false, false, false, false] rfl rfl (by kernel_rfl) (fun _ _ _ h => h) (Or.inl ⟨by kernel_rfl, ?_⟩) hS3 rfl ?_
  · (intro W hW; go_simp)
  try simp only [Act.put, List.setIfInBounds_toArray, List.set_cons_zero, List.set_cons_succ]
  refine take_ (i := 19) (N := some 30) (v := .bool false) #[true, true, true, true, true, true, true, true, true, true, true, true, true, true, true, true, true, true, true, true, false, false, false, false, false] rfl rfl (by kernel_rfl) (fun _ _ _ h => h) (Or.inl ⟨by kernel_rfl, ?_⟩) hS3 rfl ?_
  · (intro W hW; go_simp)
  try simp only [Act.put, List.setIfInBounds_toArray, List.set_cons_zero, List.set_cons_succ]
  refine take_ (i := 20) (N := some 31) (v := undef) #[true, true, true, true, true, true, true, true, true, true, true, true, true, true, true, true, true, true, true, true, true, false, false, false, false] rfl rfl (by kernel_rfl) (fun _ _ _ h => h) (Or.inr ⟨by kernel_rfl, rfl⟩) hS3 rfl ?_
  try simp only [Act.put, List.setIfInBounds_toArray, List.set_cons_zero, List.set_cons_succ]
  refine take_ (i := 21) (N := some 32) (v := undef) #[true, true, true, true, true, true, true, true, true, true, true, true, true, true, true, true, true, true, true, true, true, true, false, false, false] rfl rfl (by kernel_rfl) (fun _ _ _ h => h) (Or.inr ⟨by kernel_rfl, rfl⟩) hS3 rfl ?_
  try simp only [Act.put, List.setIfInBounds_toArray, List.set_cons_zero, List.set_cons_succ]
  refine take_ (i := 22) (N := some 33) (v := undef) #[true, true, true, true, true, true, true, true, true, true, true, true, true, true, true, true, true, true, true, true, true, true, true, false, false] rfl rfl (by kernel_rfl) (fun _ _ _ h => h) (Or.inr ⟨by kernel_rfl, rfl⟩) hS3 rfl ?_
  try simp only [Act.put, List.setIfInBounds_toArray, List.set_cons_zero, List.set_cons_succ]
  refine take_ (i := 23) (N := some 34) (v := .bool false) #[true, true, true, true, true, true, true, true, true, true, true, true, true, true, true, true, true, true, true, true, true, true, true, true, false] rfl rfl (by kernel_rfl) (fun _ _ _ h => h) (Or.inl ⟨by kernel_rfl, ?_⟩) hS3 rfl ?_
  · (intro W hW; go_simp)
  try simp only [Act.put, List.setIfInBounds_toArray, List.set_cons_zero, List.set_cons_succ]
  refine take_ (i := 24) (N := some 35) (v := .bool false) #[true, true, true, true, true, true, true, true, true, true, true, true, true, true, true, true, true, true, true, true, true, true, true, true, true] rfl rfl (by kernel_rfl) (fun _ _ _ h => h) (Or.inl ⟨by kernel_rfl, ?_⟩) hS3 rfl ?_
  · (intro W hW; go_simp)
  try simp only [Act.put, List.setIfInBounds_toArray, List.set_cons_zero, List.set_cons_succ]
  refine done_ (by kernel_rfl) ?_
  have q3 := HS7.out
  have q1 := pw_cell_below HB7.out d1
  clear d3 d1
  have HC7 := Aside0.mk (Kd.C_below HC.out (below_more HB1.out HB7.out))
  go_wp2_with fail
  go_loopw [6] (fun i wr => ∃ k : Nat, i = .int .i64 k ∧ k ≤ r.L.length ∧ Below w7.heap.size w7 wr) (fun i _ => r.L.length - (intOf i).toNat)
  case atStart => exact ⟨0, rfl, by omega, Below.refl _ _⟩
  case round =>
    obtain ⟨k, rfl, hk, hbr⟩ := hrel
    have HBr := Aside0.mk hbr
    have e1 := pw_cell_below hbr q1
    clear hbr
    by_cases hlt : k < r.L.length
    case neg =>
      obtain rfl : k = r.L.length := by omega
      go_wp2_with fail
      go_ret
      exact ⟨rfl, below_more HB1.out (below_more HB7.out HBr.out)⟩
    obtain ⟨ad, eA, hb1, hb2, hc0⟩ := HCe.out k (by rw [HKL.out]; exact hlt)
    subst eA
    rw [HE.out k hlt (by rw [HKL.out]; exact hlt)] at hc0
    have hc1 := pw_cell_below (below_more HB7.out HBr.out) hc0
    have hj0 : (0 : Int) ≤ (k : Int) := by omega
    have hj1 : (k : Int) < (r.L.length : Int) := by omega
    obtain ⟨bd, eA, f0, f1, f2⟩ := at_RF HC7.out k hlt
    subst eA
    have g0 := pw_cell_below HBr.out f0
    have g1 := pw_cell_below HBr.out f1
    have g2 := pw_cell_below HBr.out f2
    clear f0 f1 f2 hc0
    have HR2 := Aside0.mk (HRd.out k hlt)
    have hgt := HGt.out k hlt
    have hby := HBy.out k hlt
    have HAdd := Aside0.mk (fun W : World => run_string_add_sum (P := Try.prog) W (rdRF r.L k).kept (rdRF r.L k).loose (by omega))
    have HBN := Aside0.mk (show strOfNums (getL d.L (rdRF r.L k).name).bytes = (rdRF r.L k).kept ++ (rdRF r.L k).loose from by rw [hgt]; exact str_nums _)
    clear hgt hby
    generalize (getL d.L (rdRF r.L k).name).bytes = bts at *
    generalize (rdRF r.L k).name = nm at *
    generalize (rdRF r.L k).kept = kept at *
    generalize (rdRF r.L k).loose = loose at *
    go_wp2_with (go_at_call 13; (with_reducible refine (HR2.out _ (below_more HB1.out (below_more HB7.out HBr.out))).mono ?_); rintro x w8 ⟨v9, b9, hb9, rfl, hR9, hbl9⟩; obtain ⟨A9, c9, rfl⟩ := Kd.R_slice hR9; have HC9 := Aside0.mk (Kd.F_now (Kd.R_F hR9)); have HBL := Aside0.mk hbl9; clear hR9 hb9)
    have hst : (convert 22 9 (.slice A9 bts.length c9)).run Try.prog w8.drew = .ok (.string (kept ++ loose)) w8.drew := by
      have := str_run w8.drew A9 bts.length c9 bts rfl (Kd.C_drew HC9.out); rwa [HBN.out] at this
    have hadd := HAdd.out
    have r1 := pw_cell_below HBL.out e1
    have s0 := pw_cell_below HBL.out g0
    have s1 := pw_cell_below HBL.out g1
    have s2 := pw_cell_below HBL.out g2
    have t0 := pw_cell_below HBL.out hc1
    have HBk := Aside0.mk (below_more HBr.out hbl9)
    clear e1 g0 g1 g2 hc1 hbl9
    generalize kept ++ loose = all at *
    go_region_held3 (fun W => W.cell? ⟨gr, 1, none⟩ = some (.slice (some bd) r.L.length c) ∧ W.cell? (bd.add (k * 3)) = some (.string nm) ∧ W.cell? ⟨(bd.add (k * 3)).block, (bd.add (k * 3)).off + 1, none⟩ = some (.string kept) ∧ W.cell? ⟨(bd.add (k * 3)).block, (bd.add (k * 3)).off + 2, none⟩ = some (.string loose) ∧ W.cell? (ad.add k) = some (.string nm) ∧ (convert 22 9 (.slice A9 bts.length c9)).run Try.prog W = .ok (.string all) W)
      (first | assumption | exact ⟨r1, s0, s1, s2, t0, hst⟩ | go_keep) (fail)
    go_wp2_with fail
    go_roundw
    case rel => exact ⟨k + 1, by go_num, by omega, below_more HBk.out ((Below.refl _ _).drew)⟩
    case measure => simp [intOf]; omega
theorem like_calls (w : World) (h : Pair P w gd M gr d r) (hl : Like d r) (hn : r.L.length ≤ 1000) :
    Calls Try.prog 23 #[.pointer (some ⟨gd, 0, none⟩), .pointer (some ⟨gr, 0, none⟩)] w fun x w' => x = .returned (.bool true) ∧ Below w.heap.size w w' := by
  cases hd : d.down
  · exact like_here w h hl hn hd
  · exact like_gone w h hl hd
end Go.Proofs.Ytbndgnbhmifefaa
