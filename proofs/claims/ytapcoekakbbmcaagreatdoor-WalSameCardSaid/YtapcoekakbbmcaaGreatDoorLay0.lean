/- lay: numbers below 128 as bytes, and read again. Conditions: as told. -/
import Derived.Test.YtapcoekakbbmcaaGreatDoorByt
import Derived.Laws.Slices
import Derived.Outline
import Derived.RegionTactic
namespace Go.Proofs.YtapcoekakbbmcaaGreatDoor
open Go.RowKit Go.Proofs.YtapcoekakbbmcaaGreatDoorW.PrintWords
set_option linter.unusedVariables false
set_option linter.unusedSimpArgs false
theorem cutR_run (A : Option Addr) (n c : Nat) (lo hi mx : Option Value) (W : World) {v : Value} (h : (Instr.slice 43 (.slice A n c) lo hi mx).run Tryz.prog W = .ok v W) : (Instr.slice 43 (.slice A n c) lo hi mx).run Tryz.prog W = .ok v W := h
theorem elem_u8 : Tryz.prog.elem 43 = 5 := by kernel_rfl
theorem und_bytes : Tryz.prog.underlying 43 = some (.slice (Tryz.prog.elem 43)) := by rw [elem_u8]; exact Tryz.underlying43
theorem size_u8 (W : World) : (sizeOf 5).run Tryz.prog W = .ok 1 W := by kernel_rfl
theorem own_run (A : Option Addr) (n c : Nat) (hc : n ≤ c) (W : World) : (Instr.slice 43 (.slice A n c) none (some (.int .i64 n)) (some (.int .i64 n))).run Tryz.prog W = .ok (.slice A n n) W := by
  rw [run_slice_hm W 43 A n c und_bytes .i64 .i64 n n (by omega) (by omega) (by omega), elem_u8, size_u8]
  simp only [sliced, Result.andThen]
  cases A with
  | none => simp
  | some a => obtain ⟨k, o, i⟩ := a; cases i <;> simp [Addr.add]
theorem own_calls (A : Option Addr) (n c : Nat) (hc : n ≤ c) (w : World) : Calls Tryz.prog 93 #[.slice A n c] w fun e w' => e = .returned (.slice A n n) ∧ w = w' := by
  have h := fun W => own_run A n c hc W
  go_enter Tryz.func93, Tryz.ntmps93
  go_wp2
  go_ret
  exact ⟨rfl, rfl⟩
set_option maxRecDepth 100000 in
set_option maxHeartbeats 1000000 in
theorem digits_small (A : Option Addr) (n : Nat) (l : List Int) (v : Int) (w : World) (hC : kByt.C w A n l) (hl : n + 1 ≤ 140737488355328) (h0 : 0 ≤ v) (h1 : v < 128) : Calls Tryz.prog 92 #[.slice A n n, .int .u64 v] w (Fresh w (l ++ [v])) := by
  have HC := Aside0.mk hC
  clear hC
  go_enter Tryz.func92, Tryz.ntmps92
  go_wp2
  have hge : ¬ ((128 : Int) ≤ v) := by omega
  have hw8 : IntKind.u8.wrap v = v := by show v % 256 = v; omega
  refine wp_loop_rounds 1 ?_
  rw [rounds_succ]
  go_wp2_with (refine appG rfl (.tmp 15) (.tmp 18) rfl A n l v rfl rfl HC.out hl ?_; intro v1 w1 hR1 hb1)
  go_ret
  exact ⟨_, rfl, by assumption, by assumption⟩
set_option maxRecDepth 100000 in
theorem number_small (A : Option Addr) (n c : Nat) (l : List Int) (v : Int) (w : World) (hC : kByt.C w A n l) (hc : n ≤ c) (hl : n + 1 ≤ 140737488355328) (h0 : 0 ≤ v) (h1 : v < 128) : Calls Tryz.prog 51 #[.slice A n c, .int .i64 v] w (Fresh w (l ++ [v])) := by
  have HD := Aside0.mk (fun W hW => digits_small A n l v W hW hl h0 h1)
  have HO := Aside0.mk (fun W => own_calls A n c hc W)
  have HC := Aside0.mk hC
  have hw : IntKind.u64.wrap v = v := by show v % 18446744073709551616 = v; omega
  clear hC
  go_enter Tryz.func51, Tryz.ntmps51
  go_wp2_with (first
    | (go_at_call 93; (with_reducible refine (HO.out _).mono ?_); rintro e w1 ⟨rfl, rfl⟩)
    | (go_at_call 92; (with_reducible refine (HD.out _ HC.out).mono ?_); rintro e w2 ⟨v2, rfl, hR2, hb2⟩))
  go_ret
  exact ⟨_, rfl, hR2, hb2⟩
/-- a reader of bytes stands at g: what is left of them, and the error -/
def RdBlk (W : World) (g : Nat) (A : Option Addr) (n c : Nat) (e : Int) : Prop := W.heap[g]? = some (.cells #[.slice A n c, .int .i64 e] 123 (0, 0))
theorem read_calls (A : Option Addr) (n c : Nat) (w : World) : Calls Tryz.prog 35 #[.slice A n c] w fun e w' => e = .returned (.pointer (some ⟨w.heap.size, 0, none⟩)) ∧ RdBlk w' w.heap.size A n c 0 ∧ Below w.heap.size w w' := by
  go_enter Tryz.func35, Tryz.ntmps35
  go_wp2
  go_ret
  exact ⟨rfl, heap_alloc_new _ _, (Below.refl _ _).alloc (Nat.le_refl _) _⟩
theorem errno_calls (g : Nat) (A : Option Addr) (n c : Nat) (e0 : Int) (w : World) (h : RdBlk w g A n c e0) : Calls Tryz.prog 40 #[.pointer (some ⟨g, 0, none⟩)] w fun e w' => e = .returned (.int .i64 e0) ∧ w = w' := by
  have k1 : w.cell? ⟨g, 1, none⟩ = some (.int .i64 e0) := cell_of_row w g 1 _ _ _ h
  clear h
  go_enter Tryz.func40, Tryz.ntmps40
  go_wp2
  go_ret
  exact ⟨rfl, rfl⟩
theorem left_calls (g : Nat) (A : Option Addr) (n c : Nat) (e0 : Int) (w : World) (h : RdBlk w g A n c e0) : Calls Tryz.prog 42 #[.pointer (some ⟨g, 0, none⟩)] w fun e w' => e = .returned (.int .i64 n) ∧ w = w' := by
  have k0 : w.cell? ⟨g, 0, none⟩ = some (.slice A n c) := cell_of_row w g 0 _ _ _ h
  clear h
  go_enter Tryz.func42, Tryz.ntmps42
  go_wp2
  go_ret
  exact ⟨rfl, rfl⟩
theorem end_calls (g : Nat) (A : Option Addr) (c : Nat) (w : World) (h : RdBlk w g A 0 c 0) : Calls Tryz.prog 76 #[.pointer (some ⟨g, 0, none⟩)] w fun e w' => e = .returned (.int .i64 0) ∧ w = w' := by
  have k0 : w.cell? ⟨g, 0, none⟩ = some (.slice A 0 c) := cell_of_row w g 0 _ _ _ h
  have k1 : w.cell? ⟨g, 1, none⟩ = some (.int .i64 0) := cell_of_row w g 1 _ _ _ h
  clear h
  go_enter Tryz.func76, Tryz.ntmps76
  go_wp2
  go_ret
  exact ⟨rfl, rfl⟩
theorem head_run (A : Option Addr) (n c k : Nat) (hk : k ≤ c) (W : World) : (Instr.slice 43 (.slice A n c) none (some (.int .i64 k)) none).run Tryz.prog W = .ok (.slice A k c) W := by
  rw [run_slice_h W 43 A n c und_bytes .i64 k (by omega) (by omega), elem_u8, size_u8]
  simp only [sliced, Result.andThen]
  cases A with
  | none => simp
  | some a => obtain ⟨k, o, i⟩ := a; cases i <;> simp [Addr.add]
/-- where a slice stands that is cut at k -/
def tailA (A : Option Addr) (c k : Nat) : Option Addr := if c = k then A else A.map (·.add k)
theorem tail_run (A : Option Addr) (n c k : Nat) (hk : k ≤ n) (hc : n ≤ c) (W : World) : (Instr.slice 43 (.slice A n c) (some (.int .i64 k)) none none).run Tryz.prog W = .ok (.slice (tailA A c k) (n - k) (c - k)) W := by
  rw [run_slice_l W 43 A n c und_bytes .i64 k (by omega) (by omega), elem_u8, size_u8]
  simp only [sliced, Result.andThen]
  unfold tailA
  simp
/-- what is left of a slice of bytes reads as what is left -/
theorem tail_C {w : World} {A : Option Addr} {n c k : Nat} {l : List Int} (h : kByt.C w A n l) (hk : k ≤ n) (hc : n ≤ c) : kByt.C w (tailA A c k) (n - k) (l.drop k) := by
  obtain ⟨hl, hm, hz⟩ := C_cells h
  refine Kd.C_of_reads (enc := Value.int .u8) (d := (0 : Int)) (h1 := fun _ => rfl) ⟨by rw [List.length_drop, hl], by omega, fun h0 => ?_⟩
  obtain ⟨ad, rfl, hcell⟩ := hz (by omega)
  refine ⟨ad.add k, ?_, fun j hj => ?_⟩
  · unfold tailA
    rw [if_neg (by omega)]
    rfl
  · rw [Addr.add_add, hcell (k + j) (by omega)]
    simp [List.getD_eq_getElem?_getD, List.getElem?_drop]
theorem head_C {w : World} {A : Option Addr} {n k : Nat} {l : List Int} (h : kByt.C w A n l) (hk : k ≤ n) : kByt.C w A k (l.take k) := by
  obtain ⟨hl, _⟩ := C_cells h
  subst hl
  have h2 := Kd.C_take h hk
  rwa [List.length_take, Nat.min_eq_left hk] at h2
theorem below_cell {W : World} {g i : Nat} {v : Value} {B : Nat} {w : World} (hb : Below B w W) (hg : B ≤ g) : Below B w (W.setCell ⟨g, i, none⟩ v) := hb.setCell (p := ⟨g, i, none⟩) hg v
/-- take: so many bytes that there are -/
theorem take_calls (g : Nat) (A : Option Addr) (n c k : Nat) (w : World) (h : RdBlk w g A n c 0) (hk : k ≤ n) (hc : n ≤ c) (hn : n ≤ 9223372036854775807) : Calls Tryz.prog 78 #[.pointer (some ⟨g, 0, none⟩), .int .i64 k] w fun e w' => e = .returned (.slice A k c) ∧ RdBlk w' g (tailA A c k) (n - k) (c - k) 0 ∧ w' = w.setCell ⟨g, 0, none⟩ (.slice (tailA A c k) (n - k) (c - k)) := by
  have k0 : w.cell? ⟨g, 0, none⟩ = some (.slice A n c) := cell_of_row w g 0 _ _ _ h
  have k1 : w.cell? ⟨g, 1, none⟩ = some (.int .i64 0) := cell_of_row w g 1 _ _ _ h
  have z0 : w.frozen? ⟨g, 0, none⟩ = false := frozen_of_row w g 0 _ _ h
  have h1 := fun W => head_run A n c k (by omega) W
  have h2 := fun W => tail_run A n c k hk hc W
  have hle : (k : Int) ≤ (n : Int) := by omega
  have HR := Aside0.mk (show RdBlk (w.setCell ⟨g, 0, none⟩ (.slice (tailA A c k) (n - k) (c - k))) g (tailA A c k) (n - k) (c - k) 0 from heap_setCell_same w g 0 _ _ _ h)
  generalize tailA A c k = T at *
  generalize hm : n - k = m at *
  generalize hd : c - k = d at *
  clear h hm hd
  go_enter Tryz.func78, Tryz.ntmps78
  go_wp2
  go_ret
  exact ⟨rfl, HR.out, rfl⟩
set_option maxRecDepth 100000 in
set_option maxHeartbeats 2000000 in
/-- digits: a byte nought -/
theorem rdigits_zero (g : Nat) (A : Option Addr) (n c : Nat) (l : List Int) (w : World) (h : RdBlk w g A (n + 1) c 0) (hC : kByt.C w A (n + 1) (0 :: l)) (hne : ∀ ad, A = some ad → ad.block ≠ g) (hc : n + 1 ≤ c) (hn : n + 1 ≤ 9223372036854775807) : Calls Tryz.prog 72 #[.pointer (some ⟨g, 0, none⟩)] w fun e w' => e = .returned (.int .u64 0) ∧ RdBlk w' g (tailA A c 1) n (c - 1) 0 ∧ w' = w.setCell ⟨g, 0, none⟩ (.slice (tailA A c 1) n (c - 1)) := by
  have k0 : w.cell? ⟨g, 0, none⟩ = some (.slice A (n + 1) c) := cell_of_row w g 0 _ _ _ h
  obtain ⟨hl, _, hz⟩ := C_cells hC
  obtain ⟨ad, rfl, hcell⟩ := hz (by omega)
  have c0 : w.cell? ad = some (.int .u8 0) := by
    have := hcell 0 (by omega)
    rwa [show ad.add 0 = ad by cases ad; simp [Addr.add]] at this
  have hb : ad.block ≠ g := hne ad rfl
  have c1 : ∀ v, (w.setCell ⟨g, 0, none⟩ v).cell? ad = some (.int .u8 0) := fun v => by
    rw [World.cell?_setCell_other _ _ _ _ (by first | (rintro rfl; exact hb rfl) | (intro e; subst e; exact hb rfl))]
    exact c0
  have hq : ∀ W : World, (binOp .eql 43 (.slice (some ad) 1 c) (.slice none 0 0)).run Tryz.prog W = .ok (.bool false) W := fun W => Lib.run_eql_slice_nil W 43 5 (some ad) 1 c 0 0 Tryz.underlying43
  have HT := Aside0.mk (show Calls Tryz.prog 78 #[.pointer (some ⟨g, 0, none⟩), .int .i64 1] w (fun e w' => e = .returned (.slice (some ad) 1 c) ∧ RdBlk w' g (tailA (some ad) c 1) n (c - 1) 0 ∧ w' = w.setCell ⟨g, 0, none⟩ (.slice (tailA (some ad) c 1) n (c - 1))) from take_calls g (some ad) (n + 1) c 1 w h (by omega) hc hn)
  clear h hC hcell hne hz
  go_enter Tryz.func72, Tryz.ntmps72
  go_wp2
  refine wp_loop_rounds 1 ?_
  rw [rounds_succ]
  go_wp2_with (go_at_call 78; (with_reducible refine HT.out.mono ?_); rintro e w1 ⟨rfl, h1, hw1⟩; have H1 := Aside0.mk h1; have HW1 := Aside0.mk hw1; have c2 : w1.cell? ad = some (.int .u8 0) := (by (rw [HW1.out]; exact c1 _)); clear h1 hw1)
  go_ret
  exact ⟨rfl, H1.out, HW1.out⟩
theorem rnumber_zero (g : Nat) (A : Option Addr) (n c : Nat) (l : List Int) (w : World) (h : RdBlk w g A (n + 1) c 0) (hC : kByt.C w A (n + 1) (0 :: l)) (hne : ∀ ad, A = some ad → ad.block ≠ g) (hc : n + 1 ≤ c) (hn : n + 1 ≤ 9223372036854775807) : Calls Tryz.prog 36 #[.pointer (some ⟨g, 0, none⟩)] w fun e w' => e = .returned (.int .i64 0) ∧ RdBlk w' g (tailA A c 1) n (c - 1) 0 ∧ w' = w.setCell ⟨g, 0, none⟩ (.slice (tailA A c 1) n (c - 1)) := by
  have k0 : w.cell? ⟨g, 0, none⟩ = some (.slice A (n + 1) c) := cell_of_row w g 0 _ _ _ h
  have HT := Aside0.mk (rdigits_zero g A n c l w h hC hne hc hn)
  clear h hC hne
  go_enter Tryz.func36, Tryz.ntmps36
  go_wp2_with (go_at_call 72; (with_reducible refine HT.out.mono ?_); rintro e w1 ⟨rfl, h1, hw1⟩; have H1 := Aside0.mk h1; have HW1 := Aside0.mk hw1; clear h1 hw1)
  go_ret
  exact ⟨rfl, H1.out, HW1.out⟩
end Go.Proofs.YtapcoekakbbmcaaGreatDoor
