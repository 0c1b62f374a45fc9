/- crc.table comes to the array of each byte's eight halvings. Conditions: none. -/
import Derived.Test.YtjkgafijifkfcaaWWords
import Derived.Test.YtjkgafijifkfcaaProg
import Derived.Laws.BitsLemmas
import Derived.Outline
import Derived.Laws.CopyOwn
import Derived.Lib.Hide
namespace Go.Proofs.Ytjkgafijifkfcaa
open Go.RowKit
set_option linter.unusedVariables false
set_option linter.unusedSimpArgs false

/-- one halving -/
def stp (c : Int) : Int := Go.bits .xor .u32 (c / 2) ((3988292384 * (Go.bits .and .u32 c 1)) % 4294967296)
def stps : Nat → Int → Int
  | 0, c => c
  | n + 1, c => stp (stps n c)
def tb (k : Nat) : Int := stps 8 k
def tabl (k : Nat) : List Value := (List.range 256).map fun i => .int .u32 (if i < k then tb i else 0)
def tabc (k : Nat) : Array Value := (tabl k).toArray

def zc69 : Array Value := tabc 0
@[local go_sem, local simp] theorem zero69 (w : World) : (zeroValue 69).run Try.prog w = .ok (.agg zc69) w := by kernel_rfl
@[local simp] theorem zc69_size : zc69.size = 256 := by kernel_rfl
@[local simp] theorem tabc_size (k : Nat) : (tabc k).size = 256 := by simp [tabc, tabl]
@[local simp] theorem zc69_ne : ¬ zc69 = #[] := by intro h; have := congrArg Array.size h; rw [zc69_size] at this; simp at this
theorem tabc_set (k : Nat) (h : k < 256) : (tabc k).setIfInBounds k (.int .u32 (tb k)) = tabc (k + 1) := by
  unfold tabc
  rw [List.setIfInBounds_toArray]
  congr 1
  apply List.ext_getElem?
  intro i
  simp only [tabl, List.getElem?_set, List.getElem?_map, List.length_map, List.length_range]
  by_cases e : k = i
  · subst e
    simp [h]
  · rw [if_neg e]
    by_cases e3 : i < 256
    · simp only [List.getElem?_range e3, Option.map_some]
      by_cases e2 : i < k
      · rw [if_pos e2, if_pos (by omega)]
      · rw [if_neg e2, if_neg (by omega)]
    · have : (List.range 256)[i]? = none := by simp; omega
      simp [this]
theorem zc69_eq : zc69 = tabc 0 := rfl
theorem tabc_one (k : Nat) : (tabc k).all (·.oneCell') = true := by simp [tabc, tabl]; intros; rfl
attribute [local irreducible] tabc zc69
set_option maxRecDepth 20000 in
set_option maxHeartbeats 1000000 in
theorem table_any (w : World) : Calls Try.prog 36 #[] w fun e w' => e = .returned (.agg (tabc 256)) ∧ Below w.heap.size w w' := by
  go_enter Try.func36, Try.ntmps36
  go_wp2
  go_loopw [4] (fun i wr => ∃ k : Nat, k ≤ 256 ∧ i = .int .i64 k ∧ wr = (w.alloc (.cells zc69 69)).alloc (.cells (tabc k) 69)) (fun i _ => 256 - (intOf i).toNat)
  case atStart => exact ⟨0, by omega, rfl, by rw [zc69_eq]⟩
  case round =>
    obtain ⟨k, hk, rfl, rfl⟩ := hrel
    by_cases hlt : k < 256
    · go_wp2
      go_loop [3, 9] (fun c j => ∃ m : Nat, m ≤ 8 ∧ j = .int .i64 m ∧ c = .int .u32 (stps m k)) (fun _ j => 8 - (intOf j).toNat)
      case atStart => exact ⟨0, by omega, rfl, rfl⟩
      case round =>
        obtain ⟨m, hm, rfl, rfl⟩ := hrel
        by_cases hm8 : m < 8
        · go_wp2
          go_round
          case rel => exact ⟨m + 1, by omega, by go_num, rfl⟩
          case measure => simp [intOf]; omega
        · go_wp2
          obtain rfl : m = 8 := by omega
          go_roundw
          case rel => exact ⟨k + 1, by omega, by go_num, by rw [← tabc_set k hlt]; rfl⟩
          case measure => simp [intOf]; omega
    · obtain rfl : k = 256 := by omega
      go_wp2_with (first
        | (with_reducible refine wpList_load_row rfl 69 (.tmp 1) rfl (w.heap.size + 1) rfl 69 (tabc 256) (0, 0) _ (heap_alloc2_new _ _ _) Try.underlying69 rfl (by rw [tabc_size]; kernel_rfl) ?_)
        | (with_reducible refine wpList_store_row rfl 69 (.tmp 0) (.tmp 22) rfl w.heap.size (tabc 256) rfl rfl 69 zc69 (heap_alloc2_old _ _ _) (by rw [tabc_size]; kernel_rfl) (by rw [zc69_size, tabc_size]) (tabc_one _) ?_))
      have hb : Below w.heap.size w (((w.alloc (.cells zc69 69)).alloc (.cells (tabc 256) 69)).setRow w.heap.size (tabc 256)) :=
        below_setRow (((Below.refl _ _).alloc (Nat.le_refl _) _).alloc (by simp) _) (Nat.le_refl _) _
      refine bodyPost_ret (v := .agg (tabc 256)) (results_cell_row Try.results36 _ _ w.heap.size 69 (tabc 256) (0, 0) _ rfl (setRow_heap _ _ _ _ _ _ (heap_alloc2_old _ _ _)) Try.underlying69 rfl (by rw [tabc_size]; kernel_rfl)) rfl ⟨rfl, hb⟩
