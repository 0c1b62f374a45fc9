/- value.key: a value's key behind other bytes. Conditions: the row is the caller's own; lengths below 2^47. -/
import Derived.Test.YtmdofdaiepilbaaGreatDoorByt
import Derived.Test.YtmdofdaiepilbaaGreatDoorSchFits
namespace Go.Proofs.YtmdofdaiepilbaaGreatDoor
open Go.RowKit Go.Proofs.YtmdofdaiepilbaaGreatDoorW.PrintWords Go.Proofs.YtmdofdaiepilbaaGreatDoorW.PrintMore
set_option linter.unusedVariables false
set_option linter.unusedSimpArgs false
/-- bytes of the caller's own, beside a block that is only read -/
structure KAt (w0 : World) (base g : Nat) (cs : Array Value) (w : World) (v : Value) (xs : List Int) : Prop where
  row : kByt.R 5 w base (fun k => k ≠ g) v xs
  bel : Below base w0 w
  box : w.heap[g]? = some (.cells cs 75 (0, 0))
  le : base ≤ w.heap.size
theorem KAt.alloc {w0 w : World} {base g : Nat} {cs : Array Value} {v : Value} {xs : List Int} (h : KAt w0 base g cs w v xs) (o : Obj) : KAt w0 base g cs (w.alloc o) v xs := by
  have hlt := (Array.getElem?_eq_some_iff.1 h.box).1
  have hb := below_alloc (Below.refl w.heap.size w) o
  exact ⟨Kd.R_step h.row (fun k _ hk => hb.block k hk), h.bel.alloc h.le o, (hb.block g hlt).trans h.box, by have := hb.size; have := h.le; omega⟩
theorem KAt.start {w0 w : World} {base : Nat} {v : Value} {xs : List Int} (h : kByt.R 5 w base (fun _ => True) v xs) (hb : Below base w0 w) (hle : base ≤ w.heap.size) (cs : Array Value) : KAt w0 base w.heap.size cs (w.alloc (.cells cs 75)) v xs := by
  have hb2 := below_alloc (Below.refl w.heap.size w) (.cells cs 75)
  exact ⟨Kd.R_mono (Kd.R_step (Kd.R_bound h) (fun k _ hk => hb2.block k hk)) (fun k hk => by have := hk.2.2.1; omega), hb.alloc hle _, heap_alloc_new _ _, by have := hb2.size; omega⟩
theorem KAt.done {w0 w : World} {base g : Nat} {cs : Array Value} {v : Value} {xs : List Int} (h : KAt w0 base g cs w v xs) : kByt.R 5 w base (fun _ => True) v xs := Kd.R_mono h.row (fun _ _ => trivial)
section
variable {ops : Array Oper} {o : Oper} {a : Act} {Q : Exit → Act → World → Prop} {rest : List Oper} {w0 W : World} {base g : Nat} {cs : Array Value} {v : Value} {xs : List Int}
theorem appK (hgd : o.guard = none) (s x : Operand) (ho : o.op = .call { callee := .builtin .append, args := #[s, x], argTypes := #[26, 26] }) (p : Int)
    (hs : a.eval s = v) (hx : a.eval x = .slice (some ⟨W.heap.size, 0, none⟩) 1 1) (h : KAt w0 base g cs W v xs) (hl : xs.length + 1 ≤ 140737488355328)
    (hK : ∀ v1 w1, KAt w0 base g cs w1 v1 (xs ++ [p]) → wpList Tryz.prog ops Q rest (a.put o.dst v1) w1) :
    wpList Tryz.prog ops Q (o :: rest) a (W.alloc (.cells #[.int .u8 p] 5)) := by
  have hlt := (Array.getElem?_eq_some_iff.1 h.box).1
  refine Kd.R_append (Kd.int .u8) (w0 := w0) (W := W) base hgd s x 26 5 (.int .u8 0) 1 ho Tryz.underlying26 info5 rfl (by decide) (by decide) v xs p [.int .u8 p] (fun k => k ≠ g) (fun _ => False) hs hx rfl (fun k hk => hk.elim) (fun k hk => by omega) h.row h.bel h.le (by omega)
    (fun v1 w1 h1 h2 h3 _ => hK v1 w1 ⟨h1, h2, ?_, by have := h3.size; have := h.le; omega⟩)
  rw [h3.block g hlt (fun e => h.row.1 g e.symm rfl)]
  exact h.box
theorem appKN (hgd : o.guard = none) (s x : Operand) (ho : o.op = .call { callee := .builtin .append, args := #[s, x], argTypes := #[26, 26] }) (ys : List Int) (A : Option Addr) (m c : Nat)
    (hs : a.eval s = v) (hx : a.eval x = .slice A m c) (hC : kByt.C W A m ys) (h : KAt w0 base g cs W v xs) (hl : xs.length + m ≤ 140737488355328)
    (hK : ∀ v1 w1, KAt w0 base g cs w1 v1 (xs ++ ys) → wpList Tryz.prog ops Q rest (a.put o.dst v1) w1) :
    wpList Tryz.prog ops Q (o :: rest) a W := by
  have hlt := (Array.getElem?_eq_some_iff.1 h.box).1
  refine Kd.R_append_row (Value.int .u8) 0 (h1 := fun _ => rfl) (w0 := w0) base hgd s x 26 5 (.int .u8 0) 1 ho Tryz.underlying26 info5 rfl (by decide) v xs ys A m c (fun k => k ≠ g) hs hx (fun k hk => by omega) h.row hC h.bel h.le (by omega)
    (fun v1 w1 h1 h2 h3 _ => hK v1 w1 ⟨h1, h2, ?_, by have := h3.size; have := h.le; omega⟩)
  rw [h3.block g hlt (fun e => h.row.1 g e.symm rfl)]
  exact h.box
end
/-- a text in a key: a zero byte has 255 behind it -/
def escL (l : List UInt8) : List Int := l.flatMap (fun b => if b.toNat = 0 then [0, 255] else [(b.toNat : Int)])
/-- a number in a key: eight bytes, the sign bit turned -/
def topN (n : Int) : Int := (n + 9223372036854775808) % 18446744073709551616
def beB (n : Int) (i : Nat) : Int := topN n / 2 ^ (8 * (7 - i)) % 256
def tailV (v : Val) : List Int := if v.kind = 1 then [v.num % 256] else if v.kind = 2 then (List.range 8).map (beB v.num) else if v.kind = 3 ∨ v.kind = 4 then escL v.text.data.toList ++ [0, 1] else []
def keyV (v : Val) : List Int := v.kind % 256 :: tailV v
def KeyTell (w0 : World) (base : Nat) (l : List Int) (e : Ending) (w' : World) : Prop := ∃ v, e = .returned v ∧ kByt.R 5 w' base (fun _ => True) v l ∧ Below base w0 w'
theorem KAt.tell {w0 w : World} {base g : Nat} {cs : Array Value} {v : Value} {xs l : List Int} (h : KAt w0 base g cs w v xs) (hl : xs = l) : KeyTell w0 base l (.returned v) w := ⟨v, rfl, by rw [← hl]; exact h.done, h.bel⟩
set_option maxRecDepth 100000 in
set_option maxHeartbeats 8000000 in
theorem key_plain (b : Value) (k n : Int) (s : ByteArray) (xs : List Int) (hk : k ≠ 2 ∧ k ≠ 3 ∧ k ≠ 4) (w0 w : World) (base : Nat) (HO : kByt.R 5 w base (fun _ => True) b xs) (hb : Below base w0 w) (hle : base ≤ w.heap.size) (hl : xs.length + 2 ≤ 140737488355328) :
    Calls Tryz.prog 95 #[b, .agg #[.int .i64 k, .int .i64 n, .string s]] w (KeyTell w0 base (xs ++ keyV ⟨k, n, s⟩)) := by
  have HA := Aside0.mk (KAt.start HO hb hle #[.int .i64 k, .int .i64 n, .string s])
  clear HO hb hle
  have e2 : (k == 2) = false := beq_eq_false_iff_ne.2 hk.1
  have e3 : (k == 3) = false := beq_eq_false_iff_ne.2 hk.2.1
  have e4 : (k == 4) = false := beq_eq_false_iff_ne.2 hk.2.2
  by_cases k1 : k = 1
  · subst k1
    go_enter Tryz.func95, Tryz.ntmps95
    go_upto_region 1 with fail
    generalize w.alloc (.cells #[.int .i64 1, .int .i64 n, .string s] 75) = W1 at *
    generalize w.heap.size = g at *
    have c0' : W1.cell? ⟨g, 0, none⟩ = some (.int .i64 1) := cell_of_row W1 _ 0 _ _ _ HA.out.box
    go_wp2_with (first
      | (refine appK rfl (.tmp 7) (.tmp 11) rfl _ rfl rfl HA.out (by omega) ?_; intro v1 w1 h1; have c0 : w1.cell? ⟨g, 0, none⟩ = some (.int .i64 1) := cell_of_row w1 _ 0 _ _ _ h1.box; have c1 : w1.cell? ⟨g, 1, none⟩ = some (.int .i64 n) := cell_of_row w1 _ 1 _ _ _ h1.box; have H1 := Aside0.mk h1; clear h1)
      | (refine appK rfl (.tmp 17) (.tmp 21) rfl _ rfl rfl H1.out (by simp; omega) ?_; intro v2 w2 h2; have H2 := Aside0.mk h2; clear h2))
    go_ret
    exact H2.out.tell (by rw [List.append_assoc]; rfl)
  · have e1 : (k == 1) = false := beq_eq_false_iff_ne.2 k1
    have HT := Aside0.mk (show keyV ⟨k, n, s⟩ = [k % 256] by unfold keyV tailV; simp [k1, hk.1, hk.2.1, hk.2.2])
    go_enter Tryz.func95, Tryz.ntmps95
    go_upto_region 1 with fail
    generalize w.alloc (.cells #[.int .i64 k, .int .i64 n, .string s] 75) = W1 at *
    generalize w.heap.size = g at *
    have c0' : W1.cell? ⟨g, 0, none⟩ = some (.int .i64 k) := cell_of_row W1 _ 0 _ _ _ HA.out.box
    go_wp2_with (refine appK rfl (.tmp 7) (.tmp 11) rfl _ rfl rfl HA.out (by omega) ?_; intro v1 w1 h1; have c0 : w1.cell? ⟨g, 0, none⟩ = some (.int .i64 k) := cell_of_row w1 _ 0 _ _ _ h1.box; have H1 := Aside0.mk h1; clear h1)
    go_ret
    exact H1.out.tell (by rw [HT.out])
theorem escL_snoc (l : List UInt8) (m : Nat) (h : m < l.length) : escL (l.take (m + 1)) = escL (l.take m) ++ (if l[m].toNat = 0 then [0, 255] else [(l[m].toNat : Int)]) := by
  unfold escL
  rw [List.take_succ_eq_append_getElem h, List.flatMap_append]
  simp
theorem escL_len (l : List UInt8) : (escL l).length ≤ 2 * l.length := by
  induction l with
  | nil => simp [escL]
  | cons a l ih =>
    have : (escL (a :: l)).length = (if a.toNat = 0 then [0, 255] else [(a.toNat : Int)]).length + (escL l).length := by unfold escL; rw [List.flatMap_cons, List.length_append]
    rw [this, List.length_cons]
    split <;> simp <;> omega
theorem byte_at (s : ByteArray) (m : Nat) (h : m < s.size) : s.data.toList[m]'(by simpa using h) = s[m] := rfl
theorem C_rowK {W : World} {b : Nat} {fz : Nat × Nat} (l : List Int) (h : W.heap[b]? = some (.cells (l.map (Value.int .u8)).toArray 5 fz)) (hl : l.length ≤ 9223372036854775807) : Kd.C kByt W (some ⟨b, 0, none⟩) l.length l :=
  ⟨rfl, hl, fun _ => ⟨_, rfl, fun j p hj => ⟨[.int .u8 p], rfl, rfl, fun i u hu => by
    rcases i with _ | i
    · simp only [List.getElem?_cons_zero, Option.some.injEq] at hu
      subst hu
      rw [show (⟨b, 0, none⟩ : Addr).add (j * kByt.sz + 0) = ⟨b, j, none⟩ by rw [show kByt.sz = 1 from rfl, Nat.mul_one, Nat.add_zero]; exact add_plain _ _, cell_of_row W b j _ _ _ h]
      simp [hj]
    · simp at hu⟩⟩⟩
set_option maxRecDepth 100000 in
set_option maxHeartbeats 8000000 in
theorem key_text (b : Value) (k n : Int) (s : ByteArray) (xs : List Int) (hk : k = 3 ∨ k = 4) (w0 w : World) (base : Nat) (HO : kByt.R 5 w base (fun _ => True) b xs) (hb : Below base w0 w) (hle : base ≤ w.heap.size) (hl : xs.length + 2 * s.size + 10 ≤ 140737488355328) :
    Calls Tryz.prog 95 #[b, .agg #[.int .i64 k, .int .i64 n, .string s]] w (KeyTell w0 base (xs ++ keyV ⟨k, n, s⟩)) := by
  have HA := Aside0.mk (KAt.start HO hb hle #[.int .i64 k, .int .i64 n, .string s])
  clear HO hb hle
  have HT := Aside0.mk (show keyV ⟨k, n, s⟩ = k :: (escL s.data.toList ++ [0, 1]) by unfold keyV tailV; rcases hk with rfl | rfl <;> simp)
  have hsl : s.data.toList.length = s.size := by simp
  rcases hk with rfl | rfl
  all_goals
    go_enter Tryz.func95, Tryz.ntmps95
    go_upto_region 1 with fail
    generalize hbx : #[Value.int .i64 _, Value.int .i64 n, Value.string s] = cs at *
    generalize w.alloc (.cells cs 75) = W1 at *
    generalize w.heap.size = g at *
    subst hbx
    have c0' := cell_of_row W1 _ 0 _ _ _ HA.out.box
    go_wp2_with (refine appK rfl (.tmp 7) (.tmp 11) rfl _ rfl rfl HA.out (by omega) ?_; intro v1 w1 h1; have c0 := cell_of_row w1 _ 0 _ _ _ h1.box; have c2 := cell_of_row w1 _ 2 _ _ _ h1.box; have H1 := Aside0.mk h1; clear h1)
    have HTx := Aside0.mk c2
    go_loopw [0, 47] (fun v i wr => ∃ m : Nat, m ≤ s.size ∧ i = .int .i64 m ∧ KAt w0 base g _ wr v (xs ++ [_] ++ escL (s.data.toList.take m))) (fun _ i _ => s.size - (intOf i).toNat)
    case atStart => exact ⟨0, by omega, rfl, by simpa [escL] using H1.out⟩
    case round =>
      obtain ⟨m, hm, rfl, hat⟩ := hrel
      have t2 := cell_of_row wr _ 2 _ _ _ hat.box
      have HAt := Aside0.mk hat
      clear hat
      have hel := escL_len (s.data.toList.take m)
      rw [List.length_take] at hel
      by_cases hlt : m < s.size
      · have hx := index_atN s m hlt
        have hsn := escL_snoc s.data.toList m (by simpa using hlt)
        rw [byte_at s m hlt] at hsn
        have HSn := Aside0.mk hsn
        clear hsn
        generalize (s[m]'hlt).toNat = c at *
        by_cases hz : c = 0
        · subst hz
          go_wp2_with (first
            | (refine appK rfl (.tmp 50) (.tmp 55) rfl _ rfl rfl HAt.out (by simp; omega) ?_; intro v2 w2 h2; have t3 := cell_of_row w2 _ 2 _ _ _ h2.box; have H2 := Aside0.mk h2; clear h2)
            | (refine appK rfl (.tmp 62) (.tmp 63) rfl _ rfl rfl H2.out (by simp; omega) ?_; intro v3 w3 h3; have H3 := Aside0.mk h3; clear h3))
          go_roundw
          case rel => exact ⟨m + 1, by omega, by go_num, by have := H3.out; rw [HSn.out]; simpa using this⟩
          case measure => simp [intOf]; omega
        · have hq : ((c : Int) == 0) = false := beq_eq_false_iff_ne.2 (by omega)
          have HZ := Aside0.mk hz
          clear hz
          go_wp2_with (refine appK rfl (.tmp 50) (.tmp 55) rfl _ rfl rfl HAt.out (by simp; omega) ?_; intro v2 w2 h2; have t3 := cell_of_row w2 _ 2 _ _ _ h2.box; have H2 := Aside0.mk h2; clear h2)
          go_roundw
          case rel => exact ⟨m + 1, by omega, by go_num, by have := H2.out; rw [HSn.out, if_neg HZ.out]; simpa using this⟩
          case measure => simp [intOf]; omega
      · obtain rfl : m = s.size := by omega
        have HAl := Aside0.mk (HAt.out.alloc (.cells #[.int .u8 0, .int .u8 1] 5))
        have hC2 : kByt.C (wr.alloc (.cells #[.int .u8 0, .int .u8 1] 5)) (some ⟨wr.heap.size, 0, none⟩) 2 [0, 1] := C_rowK (l := [0, 1]) (heap_alloc_new _ _) (by decide)
        have HC2 := Aside0.mk hC2
        clear hC2
        go_wp2_with (refine appKN rfl (.tmp 66) (.tmp 67) rfl [0, 1] _ _ _ rfl rfl HC2.out HAl.out (by simp; omega) ?_; intro v4 w4 h4; have H4 := Aside0.mk h4; clear h4)
        go_ret
        refine H4.out.tell ?_
        rw [HT.out, List.take_of_length_le (by omega)]
        simp
end Go.Proofs.YtmdofdaiepilbaaGreatDoor
