/- The example of chapter 12 comes to true; Put at events that are written out. Conditions: none. -/
import Derived.Test.YtjkgafijifkfcaaTxPut
import Derived.WalkSpells
namespace Go.Proofs.Ytjkgafijifkfcaa
open Go.RowKit Go.Proofs.YtjkgafijifkfcaaW.PrintWords
set_option linter.unusedVariables false
set_option linter.unusedSimpArgs false

def plainEv (k n : Int) (tab : ByteArray) (ck : Int) (ct : ByteArray) : Ev := ⟨k, n, tab, [], [], ⟨ck, ct, ⟨[], 0⟩, ⟨⟨#[]⟩, 0, false⟩⟩⟩
theorem put_plain (B g : Nat) (lim num : Int) (xs : List Ev) (k n : Int) (tab : ByteArray) (ck : Int) (ct : ByteArray) (w : World) (p : PR) (hp : putR lim num xs (plainEv k n tab ck ct) = p) (hb : Buf B w g lim num xs) (hB : B ≤ w.heap.size) (hl : xs.length ≤ 1000000) :
    Calls Try.prog 22 #[.pointer (some ⟨g, 0, none⟩), .agg #[.int .i64 k, .int .i64 n, .string tab, .slice none 0 0, .slice none 0 0, .int .i64 ck, .string ct, .slice none 0 0, .int .i64 0, .string ⟨#[]⟩, .int .i64 0, .bool false]] w (Told B g w lim p) := by
  subst hp
  exact put_calls' B g lim num xs (plainEv k n tab ck ct) _ w hb hB (kEv_mk w (plainEv k n tab ck ct) (A3 := none) (c3 := 0) (A4 := none) (c4 := 0) (A7 := none) (c7 := 0) (by simp [plainEv]) (Kd.C_nil _ _) (by simp [plainEv]) (Kd.C_nil _ _) (by simp [plainEv]) (Kd.C_nil _ _)) ⟨by simp [plainEv], by simp [plainEv], by simp [plainEv]⟩ hl
theorem buf_new (w : World) (lim : Int) : Buf w.heap.size (w.alloc (.cells #[.int .i64 lim, .int .i64 (-1), .slice none 0 0] 73)) w.heap.size lim (-1) [] :=
  ⟨none, 0, heap_alloc_new _ _, EvRow.nil _ _ _⟩
theorem lives_cells {w : World} {A : Option Addr} (h : Kd.C kEv w A 1 [plainEv 5 0 ⟨#[116]⟩ 0 ⟨#[]⟩]) : ∃ ad, A = some ad ∧ w.cell? ad = some (.int .i64 5) ∧ w.cell? ⟨ad.block, ad.off + 2, none⟩ = some (.string ⟨#[116]⟩) := by
  obtain ⟨ad, _, _, _, _, _, _, eA, d0, _, d2, _⟩ := at_Ev h 0 (by simp)
  have hz : ad.add (0 * 12) = ad := by cases ad; simp [Addr.add]
  rw [hz] at d0 d2
  exact ⟨ad, eA, d0, d2⟩
theorem buf_c1 {B g : Nat} {w : World} {lim num : Int} {xs : List Ev} (h : Buf B w g lim num xs) : w.cell? ⟨g, 1, none⟩ = some (.int .i64 num) := by
  obtain ⟨_, _, hk, _⟩ := h
  exact BufBlk.c1 hk
theorem txnew_5 (w : World) : Calls Try.prog 21 #[.int .i64 5] w fun e w' => e = .returned (.pointer (some ⟨w.heap.size, 0, none⟩)) ∧ w' = w.alloc (.cells #[.int .i64 5, .int .i64 (-1), .slice none 0 0] 73) := txnew_calls 5 w
theorem put_begin_plain (lim n : Int) (xs : List Ev) (tab : ByteArray) (ck : Int) (ct : ByteArray) : putR lim (-1) xs (plainEv 2 n tab ck ct) = ⟨n, xs, [], false, 0⟩ := by simp [putR, plainEv]
theorem lives_out (w w4 : World) (h : FrameB w.heap.size w.heap.size (w.alloc (.cells #[.int .i64 5, .int .i64 (-1), .slice none 0 0] 73)) w4) : Below w.heap.size w w4 :=
  (below_alloc (Below.refl _ _) _).trans (h.below (Nat.le_refl _))
set_option maxRecDepth 100000 in
set_option maxHeartbeats 4000000 in
theorem tx_lives (w : World) : Calls Try.prog 24 #[] w fun e w' => e = .returned (.bool true) ∧ Below w.heap.size w w' := by
  have P1 := Aside0.mk (fun W (h : Buf w.heap.size W w.heap.size 5 (-1) []) (hB : w.heap.size ≤ W.heap.size) => put_plain w.heap.size w.heap.size 5 (-1) [] 2 1 ⟨#[]⟩ 0 ⟨#[]⟩ W ⟨1, [], [], false, 0⟩ rfl h hB (by simp))
  have P2 := Aside0.mk (fun W (h : Buf w.heap.size W w.heap.size 5 1 []) (hB : w.heap.size ≤ W.heap.size) => put_plain w.heap.size w.heap.size 5 1 [] 5 0 ⟨#[116]⟩ 0 ⟨#[]⟩ W ⟨1, [plainEv 5 0 ⟨#[116]⟩ 0 ⟨#[]⟩], [], false, 0⟩ (by simp [putR, plainEv]) h hB (by simp))
  have P3 := Aside0.mk (fun W (h : Buf w.heap.size W w.heap.size 5 1 [plainEv 5 0 ⟨#[116]⟩ 0 ⟨#[]⟩]) (hB : w.heap.size ≤ W.heap.size) => put_plain w.heap.size w.heap.size 5 1 [plainEv 5 0 ⟨#[116]⟩ 0 ⟨#[]⟩] 7 1 ⟨#[]⟩ 0 ⟨#[]⟩ W ⟨-1, [], [plainEv 5 0 ⟨#[116]⟩ 0 ⟨#[]⟩], true, 0⟩ (by simp [putR, plainEv]) h hB (by simp))
  go_enter Try.func24, Try.ntmps24
  go_wp2_with (first
    | (go_at_call 21; (with_reducible refine (txnew_5 _).mono ?_); rintro e w1 ⟨rfl, rfl⟩; have HB1 := Aside0.mk (buf_new w 5))
    | (go_at_call 22; (with_reducible refine (P1.out _ HB1.out (by simp)).mono ?_); rintro e w2 ⟨v2, rfl, ho2, hb2, hf2⟩; have HB2 := Aside0.mk hb2; have HF2 := Aside0.mk hf2; clear hb2 hf2; obtain ⟨A2, c2, rfl⟩ := Kd.R_slice ho2; clear ho2)
    | (go_at_call 22; (with_reducible refine (P2.out _ HB2.out (by have := HF2.out.size; simp at this; omega)).mono ?_); rintro e w3 ⟨v3, rfl, ho3, hb3, hf3⟩; have HB3 := Aside0.mk hb3; have HF3 := Aside0.mk (HF2.out.trans hf3); clear hb3 hf3; obtain ⟨A3, c3, rfl⟩ := Kd.R_slice ho3; clear ho3)
    | (go_at_call 22; (with_reducible refine (P3.out _ HB3.out (by have := HF3.out.size; simp at this; omega)).mono ?_); rintro e w4 ⟨v4, rfl, ho4, hb4, hf4⟩; have HB4 := Aside0.mk hb4; have HF4 := Aside0.mk (HF3.out.trans hf4); clear hb4 hf4; obtain ⟨A4, c4, rfl, hc4, hC4⟩ := Kd.R_reads ho4; obtain ⟨ad, eA, d0, d2⟩ := lives_cells hC4; cases eA; clear ho4 hC4)
    | (go_at_call 30; (with_reducible refine (open_no _ _ (buf_c1 HB4.out)).mono ?_); rintro e w5 ⟨rfl, rfl⟩))
  go_ret
  all_goals
    exact ⟨rfl, lives_out w w4 HF4.out⟩
end Go.Proofs.Ytjkgafijifkfcaa
