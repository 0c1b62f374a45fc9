/- Rows of bytes: append, slices.Clone, slices.Grow, slices.Concat at []byte. Conditions: the slices read as bytes; lengths below 2^47. -/
import Derived.Test.YtbndgnbhmifefaaWMore
import Derived.Test.YtbndgnbhmifefaaWShare
import Derived.Test.YtbndgnbhmifefaaWN
import Derived.Test.YtbndgnbhmifefaaWNEv
import Derived.Test.YtbndgnbhmifefaaWZeros
import Derived.Test.YtbndgnbhmifefaaProg
import Derived.WalkKit
import Derived.WalkSpells
namespace Go.Proofs.Ytbndgnbhmifefaa
open Go.RowKit Go.Proofs.YtbndgnbhmifefaaW.PrintWords
set_option linter.unusedVariables false
set_option linter.unusedSimpArgs false
theorem info5 : (Try.prog.info? 5).map (fun i => (i.zero, i.size, i.bytes)) = some (some (.int .u8 0), (Kd.int .u8).sz, 1) := by kernel_rfl
section
variable {ops : Array Oper} {o : Oper} {a : Act} {Q : Exit → Act → World → Prop} {Kc : Act → World → Prop} {rest : List Oper}

/-- one byte more, where the region draws its order -/
theorem app1_step {w0 W : World} (base : Nat) (hw : Region.wanted o (yielded ops a.tmps) = true) (s x : Operand)
    (ho : o.op = .call { callee := .builtin .append, args := #[s, x], argTypes := #[22, 22] }) (v : Value) (xs : List Int) (p : Int)
    (hs : a.eval s = v) (hx : a.eval x = .slice (some ⟨W.heap.size, 0, none⟩) 1 1)
    (HO : (Kd.int .u8).R 5 W base (fun _ => True) v xs) (HB : Below base w0 W) (hbase : base ≤ W.heap.size) (hl : xs.length + 1 ≤ 140737488355328)
    (h : ∀ v1 w1, (Kd.int .u8).R 5 w1 base (fun _ => True) v1 (xs ++ [p]) → Below base w0 w1 → W.grownBy w1 v.ownBlock → Kc (a.put o.dst v1) w1) :
    if Region.wanted o (yielded ops a.tmps) = true then Oper.wp Try.prog o a (W.alloc (.cells #[.int .u8 p] 5)) Kc Q else Kc (a.put o.dst undef) (W.alloc (.cells #[.int .u8 p] 5)) :=
  Kd.R_append_step (Kd.int .u8) (w0 := w0) (W := W) base hw s x 22 5 (.int .u8 0) 1 ho Try.underlying22 info5 rfl (by decide) (by decide) v xs p [.int .u8 p] (fun _ => True) (fun k => some k ≠ v.ownBlock) hs hx rfl (fun k hk => ⟨trivial, hk⟩) (fun _ _ => trivial) HO HB hbase (by omega)
    (fun v1 w1 h1 h2 h3 _ => h v1 w1 h1 h2 h3)

/-- one byte more, elsewhere -/
theorem app1 {w0 W : World} (base : Nat) (hgd : o.guard = none) (s x : Operand)
    (ho : o.op = .call { callee := .builtin .append, args := #[s, x], argTypes := #[22, 22] }) (v : Value) (xs : List Int) (p : Int)
    (hs : a.eval s = v) (hx : a.eval x = .slice (some ⟨W.heap.size, 0, none⟩) 1 1)
    (HO : (Kd.int .u8).R 5 W base (fun _ => True) v xs) (HB : Below base w0 W) (hbase : base ≤ W.heap.size) (hl : xs.length + 1 ≤ 140737488355328)
    (h : ∀ v1 w1, (Kd.int .u8).R 5 w1 base (fun _ => True) v1 (xs ++ [p]) → Below base w0 w1 → W.grownBy w1 v.ownBlock → wpList Try.prog ops Q rest (a.put o.dst v1) w1) :
    wpList Try.prog ops Q (o :: rest) a (W.alloc (.cells #[.int .u8 p] 5)) :=
  Kd.R_append (Kd.int .u8) (w0 := w0) (W := W) base hgd s x 22 5 (.int .u8 0) 1 ho Try.underlying22 info5 rfl (by decide) (by decide) v xs p [.int .u8 p] (fun _ => True) (fun k => some k ≠ v.ownBlock) hs hx rfl (fun k hk => ⟨trivial, hk⟩) (fun _ _ => trivial) HO HB hbase (by omega)
    (fun v1 w1 h1 h2 h3 _ => h v1 w1 h1 h2 h3)

/-- a row of bytes more -/
theorem appN {w0 W : World} (base : Nat) (hgd : o.guard = none) (s x : Operand)
    (ho : o.op = .call { callee := .builtin .append, args := #[s, x], argTypes := #[22, 22] }) (v : Value) (xs ys : List Int) (A : Option Addr) (m c : Nat)
    (hs : a.eval s = v) (hx : a.eval x = .slice A m c)
    (HO : (Kd.int .u8).R 5 W base (fun _ => True) v xs) (HR : (Kd.int .u8).C W A m ys) (HB : Below base w0 W) (hbase : base ≤ W.heap.size) (hl : xs.length + m ≤ 140737488355328)
    (h : ∀ v1 w1, (Kd.int .u8).R 5 w1 base (fun _ => True) v1 (xs ++ ys) → Below base w0 w1 → W.grownBy w1 v.ownBlock → wpList Try.prog ops Q rest (a.put o.dst v1) w1) :
    wpList Try.prog ops Q (o :: rest) a W :=
  Kd.R_append_row (Value.int .u8) 0 (h1 := fun _ => rfl) (w0 := w0) base hgd s x 22 5 (.int .u8 0) 1 ho Try.underlying22 info5 rfl (by decide) v xs ys A m c (fun _ => True) hs hx (fun _ _ => trivial) HO HR HB hbase (by omega)
    (fun v1 w1 h1 h2 h3 _ => h v1 w1 h1 h2 h3)
end

theorem C_cells {w : World} {A : Option Addr} {n : Nat} {l : List Int} (h : Kd.C (Kd.int .u8) w A n l) : l.length = n ∧ n ≤ 9223372036854775807 ∧ (0 < n → ∃ ad, A = some ad ∧ ∀ j, j < n → w.cell? (ad.add j) = some (.int .u8 (l.getD j 0))) :=
  Kd.reads_of_C (enc := Value.int .u8) (d := (0 : Int)) (h1 := fun _ => rfl) h
def rdL {α : Type} (xs : List (List α)) (i : Nat) : List α := xs.getD i []
theorem at_slice {α : Type} {d : Kd α} {e : Nat} {w : World} {A : Option Addr} {n : Nat} {xs : List (List α)} (h : Kd.C (Kd.slice e d) w A n xs) (i : Nat) (h1 : i < n) : ∃ ad A0 c0, A = some ad ∧ w.cell? (ad.add i) = some (.slice A0 (rdL xs i).length c0) ∧ (rdL xs i).length ≤ c0 ∧ d.C w A0 (rdL xs i).length (rdL xs i) := by
  obtain ⟨ad, c, e, _, hK, hc0⟩ := Kd.C_get h ([] : List α) (i : Int) (by omega) (by omega)
  have hc : ∀ j u, c[j]? = some u → w.cell? (ad.add ((i : Int).toNat * 1 + j)) = some u := hc0
  obtain ⟨A0, c0, rfl, l0, g0⟩ := hK
  exact ⟨ad, A0, c0, e, by have hq := hc 0 _ rfl; rwa [Nat.mul_one, Nat.add_zero, Int.toNat_natCast] at hq, l0, g0⟩

/-- a fresh row with the bytes l is answered -/
def Fresh (w : World) (l : List Int) (e : Ending) (w' : World) : Prop := ∃ v, e = .returned v ∧ Kd.R (Kd.int .u8) 5 w' w.heap.size (fun _ => True) v l ∧ Below w.heap.size w w'

theorem own_made0 (w : World) : (Kd.int .u8).R 5 (w.alloc (.cells #[] 5)) w.heap.size (fun _ => True) (.slice (some ⟨w.heap.size, 0, none⟩) 0 0) [] :=
  Kd.R_of_own (World.ownsRow_made w #[] 0 (Nat.le_refl _) (by decide) rfl) (fun _ _ => trivial)

set_option maxRecDepth 100000 in
set_option maxHeartbeats 1000000 in
theorem clone_calls (A : Option Addr) (n c : Nat) (l : List Int) (w : World) (hr : Kd.C (Kd.int .u8) w A n l) (hn : n ≤ 140737488355328) :
    Calls Try.prog 31 #[.slice A n c] w (Fresh w l) := by
  have HR := Aside0.mk hr
  have hz := (C_cells hr).2.2
  have hq : ∀ W : World, (binOp .eql 22 (.slice A n c) (.slice none 0 0)).run Try.prog W = .ok (.bool A.isNone) W := fun W => Lib.run_eql_slice_nil W 22 5 A n c 0 0 Try.underlying22
  cases A with
  | none =>
    have hl : l = [] := by
      have := (C_cells hr).1
      have h0 : n = 0 := by
        rcases Nat.eq_zero_or_pos n with h | h
        · exact h
        · obtain ⟨ad, h1, _⟩ := hz h; cases h1
      subst h0
      exact List.eq_nil_of_length_eq_zero this
    subst hl
    clear hz hr
    go_enter Try.func31, Try.ntmps31
    go_wp2
    go_ret
    exact ⟨_, rfl, Kd.R_nil _ _ _ _ _, Below.refl _ _⟩
  | some ad =>
    clear hz hr
    go_enter Try.func31, Try.ntmps31
    go_wp2_with (refine appN w.heap.size rfl (.tmp 5) (.tmp 6) rfl _ [] l (some ad) n c rfl rfl (own_made0 _) (Kd.C_below HR.out (below_alloc (Below.refl _ _) _)) (below_alloc (Below.refl _ _) _) (by simp) (by simp; omega) ?_; intro v1 w1 ho1 hb1 hg1)
    go_ret
    exact ⟨_, rfl, by assumption, by assumption⟩

set_option maxRecDepth 100000 in
set_option maxHeartbeats 1000000 in
theorem grow_calls (n : Nat) (w : World) (hn : n ≤ 140737488355328) :
    Calls Try.prog 45 #[.slice none 0 0, .int .i64 n] w (Fresh w []) := by
  by_cases h : 0 < n
  · have h0 : (0 : Int) < (n : Int) := by omega
    go_enter Try.func45, Try.ntmps45
    go_wp2_with (refine Kd.R_append_zeros (Kd.int .u8) (w0 := w) (W := w) w.heap.size rfl (.tmp 20) (.tmp 21) 22 3 5 (.int .u8 0) 1 rfl Try.underlying22 Try.underlying3 info5 rfl (by decide) (by decide) _ [] 0 (n : Int) (fun _ => True) rfl rfl rfl (fun _ _ => trivial) (Kd.R_nil _ _ _ _ _) (by omega) (Below.refl _ _) (Nat.le_refl _) (by simp; omega) ?_; intro v1 w1 ho1 hb1 hg1 hat; obtain ⟨A1, c1, rfl, hc1, _⟩ := Kd.R_reads ho1; have hk := Kd.R_take ho1 (Nat.zero_le _); clear ho1 hg1 hat)
    go_ret
    exact ⟨_, rfl, by assumption, by assumption⟩
  · obtain rfl : n = 0 := by omega
    go_enter Try.func45, Try.ntmps45
    go_wp2
    go_ret
    exact ⟨_, rfl, Kd.R_nil _ _ _ _ _, Below.refl _ _⟩

def lens (L : List (List Int)) (k : Nat) : Nat := ((L.take k).map (·.length)).sum
theorem lens_succ (L : List (List Int)) (k : Nat) (h : k < L.length) : lens L (k + 1) = lens L k + (rdL L k).length := by
  unfold lens rdL
  rw [List.take_succ_eq_append_getElem h, List.map_append, List.sum_append]
  simp [List.getD_eq_getElem?_getD, h]
theorem lens_le (L : List (List Int)) (k : Nat) : lens L k ≤ lens L L.length := by
  rcases Nat.le_total k L.length with hk | hk
  · have : ∀ d, lens L k ≤ lens L (k + d) := by
      intro d
      induction d with
      | zero => exact Nat.le_refl _
      | succ d ih =>
        by_cases h : k + d < L.length
        · rw [← Nat.add_assoc, lens_succ L _ h]; omega
        · have : lens L (k + (d + 1)) = lens L (k + d) := by unfold lens; rw [List.take_of_length_le (by omega), List.take_of_length_le (by omega)]
          omega
    have h := this (L.length - k)
    rwa [show k + (L.length - k) = L.length from by omega] at h
  · unfold lens; rw [List.take_of_length_le hk, List.take_of_length_le (Nat.le_refl _)]; exact Nat.le_refl _
def flat (L : List (List Int)) (k : Nat) : List Int := (L.take k).flatten
theorem flat_succ (L : List (List Int)) (k : Nat) (h : k < L.length) : flat L (k + 1) = flat L k ++ rdL L k := by
  unfold flat rdL
  rw [List.take_succ_eq_append_getElem h, List.flatten_append]
  simp [List.getD_eq_getElem?_getD, h]
theorem flat_length (L : List (List Int)) (k : Nat) : (flat L k).length = lens L k := by
  unfold flat lens; rw [List.length_flatten]

set_option maxRecDepth 100000 in
set_option maxHeartbeats 4000000 in
theorem concat_calls (A : Option Addr) (c : Nat) (L : List (List Int)) (w : World) (hr : Kd.C (Kd.slice 5 (Kd.int .u8)) w A L.length L) (hn : lens L L.length ≤ 140737488355328) :
    Calls Try.prog 29 #[.slice A L.length c] w (Fresh w L.flatten) := by
  have hlen : L.length ≤ 9223372036854775807 := hr.2.1
  have HR := Aside0.mk hr
  have HN := Aside0.mk hn
  clear hr hn
  go_enter Try.func29, Try.ntmps29
  go_wp2
  go_loop [3, 11] (fun v i => ∃ k : Nat, k ≤ L.length ∧ i = .int .i64 k ∧ v = .int .i64 (lens L k)) (fun _ i => L.length - (intOf i).toNat)
  case atStart => exact ⟨0, by omega, rfl, rfl⟩
  case round =>
    obtain ⟨k, hk, rfl, rfl⟩ := hrel
    by_cases hlt : k < L.length
    · obtain ⟨ad, A0, c0, ea, hcell, hl0, hC0⟩ := at_slice HR.out k hlt
      cases ea
      have HS := Aside0.mk (lens_succ L k hlt)
      have hle : lens L k + (rdL L k).length ≤ 140737488355328 := by rw [← HS.out]; exact Nat.le_trans (lens_le L _) HN.out
      clear hC0
      generalize rdL L k = q at *
      generalize hS : lens L k = S at *
      clear hS
      go_wp2
      go_round
      case rel => exact ⟨k + 1, by omega, by go_num, by rw [HS.out]; go_num⟩
      case measure => simp [intOf]; omega
    · obtain rfl : k = L.length := by omega
      have hle := HN.out
      generalize hS : lens L L.length = S at hle ⊢
      clear hS
      go_wp2_with (go_at_call 45; (with_reducible refine (grow_calls S _ hle).mono ?_); rintro e w1 ⟨v1, rfl, ho1, hb1⟩)
      go_loopw [6, 27] (fun v i wr => ∃ k : Nat, k ≤ L.length ∧ i = .int .i64 k ∧ Kd.R (Kd.int .u8) 5 wr w.heap.size (fun _ => True) v (flat L k) ∧ Below w.heap.size w wr) (fun _ i _ => L.length - (intOf i).toNat)
      case atStart => exact ⟨0, by omega, rfl, ho1, hb1⟩
      case round =>
        clear ho1
        obtain ⟨k, hk, rfl, hown, hbel⟩ := hrel
        obtain ⟨wo, rfl⟩ : ∃ wo : World, wo = wr := ⟨_, rfl⟩
        by_cases hlt : k < L.length
        · obtain ⟨ad, A0, c0, ea, hcell, hl0, hC0⟩ := at_slice HR.out k hlt
          cases ea
          replace hcell := pw_cell_below hbel hcell
          have HS := Aside0.mk (flat_succ L k hlt)
          have HL := Aside0.mk (flat_length L k)
          have hle2 : lens L k + (rdL L k).length ≤ 140737488355328 := by rw [← lens_succ L k hlt]; exact Nat.le_trans (lens_le L _) HN.out
          have HC0 := Aside0.mk hC0
          have HO := Aside0.mk hown
          have HW := Aside0.mk hbel
          clear hC0 hown hbel
          generalize rdL L k = q at *
          go_wp2_with (refine appN w.heap.size rfl (.tmp 31) (.tmp 32) rfl _ (flat L k) q A0 q.length c0 rfl rfl HO.out (Kd.C_below HC0.out HW.out) HW.out HW.out.size (by rw [HL.out]; exact hle2) ?_; intro v1 w2 ho2 hb2 hg2)
          go_roundw
          case rel => exact ⟨k + 1, by omega, by go_num, by rw [HS.out]; assumption, by assumption⟩
          case measure => simp [intOf]; omega
        · obtain rfl : k = L.length := by omega
          have hf : flat L L.length = L.flatten := by unfold flat; rw [List.take_of_length_le (Nat.le_refl _)]
          rw [hf] at hown
          go_wp2
          go_ret
          exact ⟨_, rfl, by assumption, by assumption⟩

theorem C_two {W : World} {A B : Option Addr} {a b : List Int} {ca cb : Nat} (ha : Kd.C (Kd.int .u8) W A a.length a) (hca : a.length ≤ ca) (hb : Kd.C (Kd.int .u8) W B b.length b) (hcb : b.length ≤ cb) :
    Kd.C (Kd.slice 5 (Kd.int .u8)) (W.alloc (.cells #[.slice A a.length ca, .slice B b.length cb] 22)) (some ⟨W.heap.size, 0, none⟩) [a, b].length [a, b] := by
  have hbel : Below W.heap.size W (W.alloc (.cells #[.slice A a.length ca, .slice B b.length cb] 22)) := below_alloc (Below.refl _ _) _
  refine ⟨rfl, by simp, fun _ => ⟨_, rfl, fun j p hj => ?_⟩⟩
  match j, hj with
  | 0, hj =>
    obtain rfl : a = p := by simpa using hj
    refine ⟨[.slice A a.length ca], rfl, ⟨A, ca, rfl, hca, Kd.C_below ha hbel⟩, fun i u hu => ?_⟩
    match i, hu with
    | 0, hu =>
      cases hu
      rw [show (⟨W.heap.size, 0, none⟩ : Addr).add (0 * (Kd.slice 5 (Kd.int .u8)).sz + 0) = ⟨W.heap.size, 0, none⟩ from add_plain _ _, cell_of_row _ _ _ _ 22 (0, 0) (heap_alloc_new _ _)]
      rfl
  | 1, hj =>
    obtain rfl : b = p := by simpa using hj
    refine ⟨[.slice B b.length cb], rfl, ⟨B, cb, rfl, hcb, Kd.C_below hb hbel⟩, fun i u hu => ?_⟩
    match i, hu with
    | 0, hu =>
      cases hu
      rw [show (⟨W.heap.size, 0, none⟩ : Addr).add (1 * (Kd.slice 5 (Kd.int .u8)).sz + 0) = ⟨W.heap.size, 1, none⟩ from add_plain _ _, cell_of_row _ _ _ _ 22 (0, 0) (heap_alloc_new _ _)]
      rfl

end Go.Proofs.Ytbndgnbhmifefaa
