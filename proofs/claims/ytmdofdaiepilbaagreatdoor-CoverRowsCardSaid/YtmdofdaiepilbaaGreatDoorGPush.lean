/- Rows of the api's structs: append. Conditions: the rows read so; few elements. Written by a program (gen_push.py of this claim's author). -/
import Derived.Test.YtmdofdaiepilbaaGreatDoorGApi
import Derived.Test.YtmdofdaiepilbaaGreatDoorWMore
import Derived.Test.YtmdofdaiepilbaaGreatDoorWN
import Derived.Test.YtmdofdaiepilbaaGreatDoorWNEv
import Derived.Test.YtmdofdaiepilbaaGreatDoorWZeros
namespace Go.Proofs.YtmdofdaiepilbaaGreatDoor
open Go.RowKit Go.Proofs.YtmdofdaiepilbaaGreatDoorW.PrintWords
set_option linter.unusedVariables false
set_option linter.unusedSimpArgs false
/-- rows of rows -/
def kRow : Kd (List Val) := Kd.slice 75 kVal
/-- an own row above base -/
def Own {α : Type} (d : Kd α) (e : Nat) (w : World) (base : Nat) (v : Value) (xs : List α) : Prop := Kd.N d e w base (fun _ => True) v xs
theorem Own.nil {α : Type} (d : Kd α) (e : Nat) (w : World) (base : Nat) : Own d e w base (.slice none 0 0) [] := Kd.N_nil _ _ _ _ _
theorem Own.below {α : Type} {d : Kd α} {e : Nat} {w w1 : World} {base : Nat} {v : Value} {xs : List α} (h : Own d e w base v xs) (hb : Below w.heap.size w w1) : Own d e w1 base v xs := Kd.N_below h hb
theorem Own.of_R {α : Type} {d : Kd α} {e : Nat} {w : World} {base : Nat} {v : Value} {xs : List α} (h : d.R e w base (fun _ => True) v xs) : Own d e w base v xs := Kd.R_N h
theorem Own.lower {α : Type} {d : Kd α} {e : Nat} {w : World} {b base : Nat} {v : Value} {xs : List α} (h : Own d e w base v xs) (hb : b ≤ base) : Own d e w b v xs := Kd.N_lower h hb
theorem Own.slice {α : Type} {d : Kd α} {e : Nat} {w : World} {base : Nat} {v : Value} {xs : List α} (h : Own d e w base v xs) : ∃ A c, v = .slice A xs.length c ∧ xs.length ≤ c ∧ d.C w A xs.length xs := Kd.N_reads h
theorem Own.lt {α : Type} {d : Kd α} {e : Nat} {w : World} {base : Nat} {v : Value} {xs : List α} (h : Own d e w base v xs) {okp : Nat → Prop} (ho : ∀ k, okp k → k < base) : ∀ k, okp k → some k ≠ v.ownBlock := fun k hk he => by have := Kd.N_base h k he.symm; have := ho k hk; omega
theorem Own.fits {α : Type} {d : Kd α} {e : Nat} {w : World} {base : Nat} {v : Value} {xs : List α} (h : Own d e w base v xs) : ∀ k, v.ownBlock = some k → k < w.heap.size := fun k hk => by obtain ⟨_, rows, _, hR, _⟩ := h; obtain ⟨_, inner, ho, _⟩ := hR; exact own_lt ho k hk
theorem Own.ge {α : Type} {d : Kd α} {e : Nat} {w : World} {base : Nat} {v : Value} {xs : List α} (h : Own d e w base v xs) {okp : Nat → Prop} (ho : ∀ k, okp k → k < base ∨ w.heap.size ≤ k) : ∀ k, okp k → some k ≠ v.ownBlock := fun k hk he => by have h1 := Kd.N_base h k he.symm; have h2 := h.fits k he.symm; rcases ho k hk with h3 | h3 <;> omega
section
variable {ops : Array Oper} {o : Oper} {a : Act} {Q : Exit → Act → World → Prop} {Kc : Act → World → Prop} {rest : List Oper}
theorem pushVal {w0 W : World} (base : Nat) (hgd : o.guard = none) (s x : Operand) (ho : o.op = .call { callee := .builtin .append, args := #[s, x], argTypes := #[49, 49] }) (v : Value) (xs : List _) (p : _) (cs : List Value) (okp : Nat → Prop) (hs : a.eval s = v) (hx : a.eval x = .slice (some ⟨W.heap.size, 0, none⟩) 1 1) (hp : Kd.FK kVal W okp p cs) (hok : ∀ k, okp k → some k ≠ v.ownBlock)
    (HO : Own kVal 75 W base v xs) (HB : Below base w0 W) (hbase : base ≤ W.heap.size) (hl : xs.length + 1 ≤ 1000000) (h : ∀ v1 w1, Own kVal 75 w1 base v1 (xs ++ [p]) → Below base w0 w1 → wpList Tryz.prog ops Q rest (a.put o.dst v1) w1) : wpList Tryz.prog ops Q (o :: rest) a (W.alloc (.cells cs.toArray 75)) :=
  Kd.N_append kVal (w0 := w0) (W := W) base hgd s x 49 75 (.agg #[.int .i64 0, .int .i64 0, .string ⟨#[]⟩]) 32 ho Tryz.underlying49 infoVal rfl (by decide) (by decide) v xs p cs (fun _ => True) okp hs hx hp (fun k hk => ⟨trivial, hok k hk⟩) (fun _ _ => trivial) HO HB hbase (by omega) (fun v1 w1 h1 h2 _ _ => h v1 w1 h1 h2)
theorem pushAllVal {w0 W : World} (base : Nat) (hgd : o.guard = none) (s x : Operand) (ho : o.op = .call { callee := .builtin .append, args := #[s, x], argTypes := #[49, 49] }) (v : Value) (xs ys : List _) (A : Option Addr) (m c : Nat) (okp : Nat → Prop) (hs : a.eval s = v) (hx : a.eval x = .slice A m c) (HR : Kd.F kVal W okp A m ys) (hok : ∀ k, okp k → some k ≠ v.ownBlock)
    (HO : Own kVal 75 W base v xs) (HB : Below base w0 W) (hbase : base ≤ W.heap.size) (hl : xs.length + m ≤ 1000000) (h : ∀ v1 w1, Own kVal 75 w1 base v1 (xs ++ ys) → Below base w0 w1 → wpList Tryz.prog ops Q rest (a.put o.dst v1) w1) : wpList Tryz.prog ops Q (o :: rest) a (W) :=
  Kd.N_append_rows kVal (w0 := w0) (W := W) base hgd s x 49 75 (.agg #[.int .i64 0, .int .i64 0, .string ⟨#[]⟩]) 32 ho Tryz.underlying49 infoVal rfl (by decide) (by decide) v xs ys A m c (fun _ => True) okp hs hx HO HR (fun k hk => ⟨trivial, hok k hk⟩) (fun _ _ => trivial) HB hbase (by omega) (fun v1 w1 h1 h2 _ _ => h v1 w1 h1 h2)
theorem pushVal_step {w0 W : World} (base : Nat) (hw : Region.wanted o (yielded ops a.tmps) = true) (s x : Operand) (ho : o.op = .call { callee := .builtin .append, args := #[s, x], argTypes := #[49, 49] }) (v : Value) (xs : List _) (p : _) (cs : List Value) (okp : Nat → Prop) (hs : a.eval s = v) (hx : a.eval x = .slice (some ⟨W.heap.size, 0, none⟩) 1 1) (hp : Kd.FK kVal W okp p cs) (hok : ∀ k, okp k → some k ≠ v.ownBlock)
    (HO : Own kVal 75 W base v xs) (HB : Below base w0 W) (hbase : base ≤ W.heap.size) (hl : xs.length + 1 ≤ 1000000) (h : ∀ v1 w1, Own kVal 75 w1 base v1 (xs ++ [p]) → Below base w0 w1 → Kc (a.put o.dst v1) w1) : if Region.wanted o (yielded ops a.tmps) = true then Oper.wp Tryz.prog o a (W.alloc (.cells cs.toArray 75)) Kc Q else Kc (a.put o.dst undef) (W.alloc (.cells cs.toArray 75)) :=
  Kd.N_append_step kVal (w0 := w0) (W := W) base hw s x 49 75 (.agg #[.int .i64 0, .int .i64 0, .string ⟨#[]⟩]) 32 ho Tryz.underlying49 infoVal rfl (by decide) (by decide) v xs p cs (fun _ => True) okp hs hx hp (fun k hk => ⟨trivial, hok k hk⟩) (fun _ _ => trivial) HO HB hbase (by omega) (fun v1 w1 h1 h2 _ _ => h v1 w1 h1 h2)
theorem pushAllVal_step {w0 W : World} (base : Nat) (hw : Region.wanted o (yielded ops a.tmps) = true) (s x : Operand) (ho : o.op = .call { callee := .builtin .append, args := #[s, x], argTypes := #[49, 49] }) (v : Value) (xs ys : List _) (A : Option Addr) (m c : Nat) (okp : Nat → Prop) (hs : a.eval s = v) (hx : a.eval x = .slice A m c) (HR : Kd.F kVal W okp A m ys) (hok : ∀ k, okp k → some k ≠ v.ownBlock)
    (HO : Own kVal 75 W base v xs) (HB : Below base w0 W) (hbase : base ≤ W.heap.size) (hl : xs.length + m ≤ 1000000) (h : ∀ v1 w1, Own kVal 75 w1 base v1 (xs ++ ys) → Below base w0 w1 → Kc (a.put o.dst v1) w1) : if Region.wanted o (yielded ops a.tmps) = true then Oper.wp Tryz.prog o a (W) Kc Q else Kc (a.put o.dst undef) (W) :=
  Kd.N_append_rows_step kVal (w0 := w0) (W := W) base hw s x 49 75 (.agg #[.int .i64 0, .int .i64 0, .string ⟨#[]⟩]) 32 ho Tryz.underlying49 infoVal rfl (by decide) (by decide) v xs ys A m c (fun _ => True) okp hs hx HO HR (fun k hk => ⟨trivial, hok k hk⟩) (fun _ _ => trivial) HB hbase (by omega) (fun v1 w1 h1 h2 _ _ => h v1 w1 h1 h2)
theorem pushCol {w0 W : World} (base : Nat) (hgd : o.guard = none) (s x : Operand) (ho : o.op = .call { callee := .builtin .append, args := #[s, x], argTypes := #[41, 41] }) (v : Value) (xs : List _) (p : _) (cs : List Value) (okp : Nat → Prop) (hs : a.eval s = v) (hx : a.eval x = .slice (some ⟨W.heap.size, 0, none⟩) 1 1) (hp : Kd.FK kCol W okp p cs) (hok : ∀ k, okp k → some k ≠ v.ownBlock)
    (HO : Own kCol 51 W base v xs) (HB : Below base w0 W) (hbase : base ≤ W.heap.size) (hl : xs.length + 1 ≤ 1000000) (h : ∀ v1 w1, Own kCol 51 w1 base v1 (xs ++ [p]) → Below base w0 w1 → wpList Tryz.prog ops Q rest (a.put o.dst v1) w1) : wpList Tryz.prog ops Q (o :: rest) a (W.alloc (.cells cs.toArray 51)) :=
  Kd.N_append kCol (w0 := w0) (W := W) base hgd s x 41 51 (.agg #[.string ⟨#[]⟩, .int .i64 0, .bool false]) 32 ho Tryz.underlying41 infoCol rfl (by decide) (by decide) v xs p cs (fun _ => True) okp hs hx hp (fun k hk => ⟨trivial, hok k hk⟩) (fun _ _ => trivial) HO HB hbase (by omega) (fun v1 w1 h1 h2 _ _ => h v1 w1 h1 h2)
theorem pushAllCol {w0 W : World} (base : Nat) (hgd : o.guard = none) (s x : Operand) (ho : o.op = .call { callee := .builtin .append, args := #[s, x], argTypes := #[41, 41] }) (v : Value) (xs ys : List _) (A : Option Addr) (m c : Nat) (okp : Nat → Prop) (hs : a.eval s = v) (hx : a.eval x = .slice A m c) (HR : Kd.F kCol W okp A m ys) (hok : ∀ k, okp k → some k ≠ v.ownBlock)
    (HO : Own kCol 51 W base v xs) (HB : Below base w0 W) (hbase : base ≤ W.heap.size) (hl : xs.length + m ≤ 1000000) (h : ∀ v1 w1, Own kCol 51 w1 base v1 (xs ++ ys) → Below base w0 w1 → wpList Tryz.prog ops Q rest (a.put o.dst v1) w1) : wpList Tryz.prog ops Q (o :: rest) a (W) :=
  Kd.N_append_rows kCol (w0 := w0) (W := W) base hgd s x 41 51 (.agg #[.string ⟨#[]⟩, .int .i64 0, .bool false]) 32 ho Tryz.underlying41 infoCol rfl (by decide) (by decide) v xs ys A m c (fun _ => True) okp hs hx HO HR (fun k hk => ⟨trivial, hok k hk⟩) (fun _ _ => trivial) HB hbase (by omega) (fun v1 w1 h1 h2 _ _ => h v1 w1 h1 h2)
theorem pushCol_step {w0 W : World} (base : Nat) (hw : Region.wanted o (yielded ops a.tmps) = true) (s x : Operand) (ho : o.op = .call { callee := .builtin .append, args := #[s, x], argTypes := #[41, 41] }) (v : Value) (xs : List _) (p : _) (cs : List Value) (okp : Nat → Prop) (hs : a.eval s = v) (hx : a.eval x = .slice (some ⟨W.heap.size, 0, none⟩) 1 1) (hp : Kd.FK kCol W okp p cs) (hok : ∀ k, okp k → some k ≠ v.ownBlock)
    (HO : Own kCol 51 W base v xs) (HB : Below base w0 W) (hbase : base ≤ W.heap.size) (hl : xs.length + 1 ≤ 1000000) (h : ∀ v1 w1, Own kCol 51 w1 base v1 (xs ++ [p]) → Below base w0 w1 → Kc (a.put o.dst v1) w1) : if Region.wanted o (yielded ops a.tmps) = true then Oper.wp Tryz.prog o a (W.alloc (.cells cs.toArray 51)) Kc Q else Kc (a.put o.dst undef) (W.alloc (.cells cs.toArray 51)) :=
  Kd.N_append_step kCol (w0 := w0) (W := W) base hw s x 41 51 (.agg #[.string ⟨#[]⟩, .int .i64 0, .bool false]) 32 ho Tryz.underlying41 infoCol rfl (by decide) (by decide) v xs p cs (fun _ => True) okp hs hx hp (fun k hk => ⟨trivial, hok k hk⟩) (fun _ _ => trivial) HO HB hbase (by omega) (fun v1 w1 h1 h2 _ _ => h v1 w1 h1 h2)
theorem pushAllCol_step {w0 W : World} (base : Nat) (hw : Region.wanted o (yielded ops a.tmps) = true) (s x : Operand) (ho : o.op = .call { callee := .builtin .append, args := #[s, x], argTypes := #[41, 41] }) (v : Value) (xs ys : List _) (A : Option Addr) (m c : Nat) (okp : Nat → Prop) (hs : a.eval s = v) (hx : a.eval x = .slice A m c) (HR : Kd.F kCol W okp A m ys) (hok : ∀ k, okp k → some k ≠ v.ownBlock)
    (HO : Own kCol 51 W base v xs) (HB : Below base w0 W) (hbase : base ≤ W.heap.size) (hl : xs.length + m ≤ 1000000) (h : ∀ v1 w1, Own kCol 51 w1 base v1 (xs ++ ys) → Below base w0 w1 → Kc (a.put o.dst v1) w1) : if Region.wanted o (yielded ops a.tmps) = true then Oper.wp Tryz.prog o a (W) Kc Q else Kc (a.put o.dst undef) (W) :=
  Kd.N_append_rows_step kCol (w0 := w0) (W := W) base hw s x 41 51 (.agg #[.string ⟨#[]⟩, .int .i64 0, .bool false]) 32 ho Tryz.underlying41 infoCol rfl (by decide) (by decide) v xs ys A m c (fun _ => True) okp hs hx HO HR (fun k hk => ⟨trivial, hok k hk⟩) (fun _ _ => trivial) HB hbase (by omega) (fun v1 w1 h1 h2 _ _ => h v1 w1 h1 h2)
theorem infoTab : (Tryz.prog.info? 45).map (fun i => (i.zero, i.size, i.bytes)) = some (some (.agg #[.string ⟨#[]⟩, .slice none 0 0, .int .i64 0]), kTab.sz, 48) := by kernel_rfl
theorem pushTab {w0 W : World} (base : Nat) (hgd : o.guard = none) (s x : Operand) (ho : o.op = .call { callee := .builtin .append, args := #[s, x], argTypes := #[22, 22] }) (v : Value) (xs : List _) (p : _) (cs : List Value) (okp : Nat → Prop) (hs : a.eval s = v) (hx : a.eval x = .slice (some ⟨W.heap.size, 0, none⟩) 1 1) (hp : Kd.FK kTab W okp p cs) (hok : ∀ k, okp k → some k ≠ v.ownBlock)
    (HO : Own kTab 45 W base v xs) (HB : Below base w0 W) (hbase : base ≤ W.heap.size) (hl : xs.length + 1 ≤ 1000000) (h : ∀ v1 w1, Own kTab 45 w1 base v1 (xs ++ [p]) → Below base w0 w1 → wpList Tryz.prog ops Q rest (a.put o.dst v1) w1) : wpList Tryz.prog ops Q (o :: rest) a (W.alloc (.cells cs.toArray 45)) :=
  Kd.N_append kTab (w0 := w0) (W := W) base hgd s x 22 45 (.agg #[.string ⟨#[]⟩, .slice none 0 0, .int .i64 0]) 48 ho Tryz.underlying22 infoTab rfl (by decide) (by decide) v xs p cs (fun _ => True) okp hs hx hp (fun k hk => ⟨trivial, hok k hk⟩) (fun _ _ => trivial) HO HB hbase (by omega) (fun v1 w1 h1 h2 _ _ => h v1 w1 h1 h2)
theorem pushAllTab {w0 W : World} (base : Nat) (hgd : o.guard = none) (s x : Operand) (ho : o.op = .call { callee := .builtin .append, args := #[s, x], argTypes := #[22, 22] }) (v : Value) (xs ys : List _) (A : Option Addr) (m c : Nat) (okp : Nat → Prop) (hs : a.eval s = v) (hx : a.eval x = .slice A m c) (HR : Kd.F kTab W okp A m ys) (hok : ∀ k, okp k → some k ≠ v.ownBlock)
    (HO : Own kTab 45 W base v xs) (HB : Below base w0 W) (hbase : base ≤ W.heap.size) (hl : xs.length + m ≤ 1000000) (h : ∀ v1 w1, Own kTab 45 w1 base v1 (xs ++ ys) → Below base w0 w1 → wpList Tryz.prog ops Q rest (a.put o.dst v1) w1) : wpList Tryz.prog ops Q (o :: rest) a (W) :=
  Kd.N_append_rows kTab (w0 := w0) (W := W) base hgd s x 22 45 (.agg #[.string ⟨#[]⟩, .slice none 0 0, .int .i64 0]) 48 ho Tryz.underlying22 infoTab rfl (by decide) (by decide) v xs ys A m c (fun _ => True) okp hs hx HO HR (fun k hk => ⟨trivial, hok k hk⟩) (fun _ _ => trivial) HB hbase (by omega) (fun v1 w1 h1 h2 _ _ => h v1 w1 h1 h2)
theorem pushTab_step {w0 W : World} (base : Nat) (hw : Region.wanted o (yielded ops a.tmps) = true) (s x : Operand) (ho : o.op = .call { callee := .builtin .append, args := #[s, x], argTypes := #[22, 22] }) (v : Value) (xs : List _) (p : _) (cs : List Value) (okp : Nat → Prop) (hs : a.eval s = v) (hx : a.eval x = .slice (some ⟨W.heap.size, 0, none⟩) 1 1) (hp : Kd.FK kTab W okp p cs) (hok : ∀ k, okp k → some k ≠ v.ownBlock)
    (HO : Own kTab 45 W base v xs) (HB : Below base w0 W) (hbase : base ≤ W.heap.size) (hl : xs.length + 1 ≤ 1000000) (h : ∀ v1 w1, Own kTab 45 w1 base v1 (xs ++ [p]) → Below base w0 w1 → Kc (a.put o.dst v1) w1) : if Region.wanted o (yielded ops a.tmps) = true then Oper.wp Tryz.prog o a (W.alloc (.cells cs.toArray 45)) Kc Q else Kc (a.put o.dst undef) (W.alloc (.cells cs.toArray 45)) :=
  Kd.N_append_step kTab (w0 := w0) (W := W) base hw s x 22 45 (.agg #[.string ⟨#[]⟩, .slice none 0 0, .int .i64 0]) 48 ho Tryz.underlying22 infoTab rfl (by decide) (by decide) v xs p cs (fun _ => True) okp hs hx hp (fun k hk => ⟨trivial, hok k hk⟩) (fun _ _ => trivial) HO HB hbase (by omega) (fun v1 w1 h1 h2 _ _ => h v1 w1 h1 h2)
theorem pushAllTab_step {w0 W : World} (base : Nat) (hw : Region.wanted o (yielded ops a.tmps) = true) (s x : Operand) (ho : o.op = .call { callee := .builtin .append, args := #[s, x], argTypes := #[22, 22] }) (v : Value) (xs ys : List _) (A : Option Addr) (m c : Nat) (okp : Nat → Prop) (hs : a.eval s = v) (hx : a.eval x = .slice A m c) (HR : Kd.F kTab W okp A m ys) (hok : ∀ k, okp k → some k ≠ v.ownBlock)
    (HO : Own kTab 45 W base v xs) (HB : Below base w0 W) (hbase : base ≤ W.heap.size) (hl : xs.length + m ≤ 1000000) (h : ∀ v1 w1, Own kTab 45 w1 base v1 (xs ++ ys) → Below base w0 w1 → Kc (a.put o.dst v1) w1) : if Region.wanted o (yielded ops a.tmps) = true then Oper.wp Tryz.prog o a (W) Kc Q else Kc (a.put o.dst undef) (W) :=
  Kd.N_append_rows_step kTab (w0 := w0) (W := W) base hw s x 22 45 (.agg #[.string ⟨#[]⟩, .slice none 0 0, .int .i64 0]) 48 ho Tryz.underlying22 infoTab rfl (by decide) (by decide) v xs ys A m c (fun _ => True) okp hs hx HO HR (fun k hk => ⟨trivial, hok k hk⟩) (fun _ _ => trivial) HB hbase (by omega) (fun v1 w1 h1 h2 _ _ => h v1 w1 h1 h2)
theorem infoWrk : (Tryz.prog.info? 47).map (fun i => (i.zero, i.size, i.bytes)) = some (some (.agg #[.string ⟨#[]⟩, .bool false, .string ⟨#[]⟩]), kWrk.sz, 40) := by kernel_rfl
theorem pushWrk {w0 W : World} (base : Nat) (hgd : o.guard = none) (s x : Operand) (ho : o.op = .call { callee := .builtin .append, args := #[s, x], argTypes := #[23, 23] }) (v : Value) (xs : List _) (p : _) (cs : List Value) (okp : Nat → Prop) (hs : a.eval s = v) (hx : a.eval x = .slice (some ⟨W.heap.size, 0, none⟩) 1 1) (hp : Kd.FK kWrk W okp p cs) (hok : ∀ k, okp k → some k ≠ v.ownBlock)
    (HO : Own kWrk 47 W base v xs) (HB : Below base w0 W) (hbase : base ≤ W.heap.size) (hl : xs.length + 1 ≤ 1000000) (h : ∀ v1 w1, Own kWrk 47 w1 base v1 (xs ++ [p]) → Below base w0 w1 → wpList Tryz.prog ops Q rest (a.put o.dst v1) w1) : wpList Tryz.prog ops Q (o :: rest) a (W.alloc (.cells cs.toArray 47)) :=
  Kd.N_append kWrk (w0 := w0) (W := W) base hgd s x 23 47 (.agg #[.string ⟨#[]⟩, .bool false, .string ⟨#[]⟩]) 40 ho Tryz.underlying23 infoWrk rfl (by decide) (by decide) v xs p cs (fun _ => True) okp hs hx hp (fun k hk => ⟨trivial, hok k hk⟩) (fun _ _ => trivial) HO HB hbase (by omega) (fun v1 w1 h1 h2 _ _ => h v1 w1 h1 h2)
theorem pushAllWrk {w0 W : World} (base : Nat) (hgd : o.guard = none) (s x : Operand) (ho : o.op = .call { callee := .builtin .append, args := #[s, x], argTypes := #[23, 23] }) (v : Value) (xs ys : List _) (A : Option Addr) (m c : Nat) (okp : Nat → Prop) (hs : a.eval s = v) (hx : a.eval x = .slice A m c) (HR : Kd.F kWrk W okp A m ys) (hok : ∀ k, okp k → some k ≠ v.ownBlock)
    (HO : Own kWrk 47 W base v xs) (HB : Below base w0 W) (hbase : base ≤ W.heap.size) (hl : xs.length + m ≤ 1000000) (h : ∀ v1 w1, Own kWrk 47 w1 base v1 (xs ++ ys) → Below base w0 w1 → wpList Tryz.prog ops Q rest (a.put o.dst v1) w1) : wpList Tryz.prog ops Q (o :: rest) a (W) :=
  Kd.N_append_rows kWrk (w0 := w0) (W := W) base hgd s x 23 47 (.agg #[.string ⟨#[]⟩, .bool false, .string ⟨#[]⟩]) 40 ho Tryz.underlying23 infoWrk rfl (by decide) (by decide) v xs ys A m c (fun _ => True) okp hs hx HO HR (fun k hk => ⟨trivial, hok k hk⟩) (fun _ _ => trivial) HB hbase (by omega) (fun v1 w1 h1 h2 _ _ => h v1 w1 h1 h2)
theorem pushWrk_step {w0 W : World} (base : Nat) (hw : Region.wanted o (yielded ops a.tmps) = true) (s x : Operand) (ho : o.op = .call { callee := .builtin .append, args := #[s, x], argTypes := #[23, 23] }) (v : Value) (xs : List _) (p : _) (cs : List Value) (okp : Nat → Prop) (hs : a.eval s = v) (hx : a.eval x = .slice (some ⟨W.heap.size, 0, none⟩) 1 1) (hp : Kd.FK kWrk W okp p cs) (hok : ∀ k, okp k → some k ≠ v.ownBlock)
    (HO : Own kWrk 47 W base v xs) (HB : Below base w0 W) (hbase : base ≤ W.heap.size) (hl : xs.length + 1 ≤ 1000000) (h : ∀ v1 w1, Own kWrk 47 w1 base v1 (xs ++ [p]) → Below base w0 w1 → Kc (a.put o.dst v1) w1) : if Region.wanted o (yielded ops a.tmps) = true then Oper.wp Tryz.prog o a (W.alloc (.cells cs.toArray 47)) Kc Q else Kc (a.put o.dst undef) (W.alloc (.cells cs.toArray 47)) :=
  Kd.N_append_step kWrk (w0 := w0) (W := W) base hw s x 23 47 (.agg #[.string ⟨#[]⟩, .bool false, .string ⟨#[]⟩]) 40 ho Tryz.underlying23 infoWrk rfl (by decide) (by decide) v xs p cs (fun _ => True) okp hs hx hp (fun k hk => ⟨trivial, hok k hk⟩) (fun _ _ => trivial) HO HB hbase (by omega) (fun v1 w1 h1 h2 _ _ => h v1 w1 h1 h2)
theorem pushAllWrk_step {w0 W : World} (base : Nat) (hw : Region.wanted o (yielded ops a.tmps) = true) (s x : Operand) (ho : o.op = .call { callee := .builtin .append, args := #[s, x], argTypes := #[23, 23] }) (v : Value) (xs ys : List _) (A : Option Addr) (m c : Nat) (okp : Nat → Prop) (hs : a.eval s = v) (hx : a.eval x = .slice A m c) (HR : Kd.F kWrk W okp A m ys) (hok : ∀ k, okp k → some k ≠ v.ownBlock)
    (HO : Own kWrk 47 W base v xs) (HB : Below base w0 W) (hbase : base ≤ W.heap.size) (hl : xs.length + m ≤ 1000000) (h : ∀ v1 w1, Own kWrk 47 w1 base v1 (xs ++ ys) → Below base w0 w1 → Kc (a.put o.dst v1) w1) : if Region.wanted o (yielded ops a.tmps) = true then Oper.wp Tryz.prog o a (W) Kc Q else Kc (a.put o.dst undef) (W) :=
  Kd.N_append_rows_step kWrk (w0 := w0) (W := W) base hw s x 23 47 (.agg #[.string ⟨#[]⟩, .bool false, .string ⟨#[]⟩]) 40 ho Tryz.underlying23 infoWrk rfl (by decide) (by decide) v xs ys A m c (fun _ => True) okp hs hx HO HR (fun k hk => ⟨trivial, hok k hk⟩) (fun _ _ => trivial) HB hbase (by omega) (fun v1 w1 h1 h2 _ _ => h v1 w1 h1 h2)
theorem infoRow : (Tryz.prog.info? 49).map (fun i => (i.zero, i.size, i.bytes)) = some (some (.slice none 0 0), kRow.sz, 24) := by kernel_rfl
theorem pushRow {w0 W : World} (base : Nat) (hgd : o.guard = none) (s x : Operand) (ho : o.op = .call { callee := .builtin .append, args := #[s, x], argTypes := #[63, 63] }) (v : Value) (xs : List _) (p : _) (cs : List Value) (okp : Nat → Prop) (hs : a.eval s = v) (hx : a.eval x = .slice (some ⟨W.heap.size, 0, none⟩) 1 1) (hp : Kd.FK kRow W okp p cs) (hok : ∀ k, okp k → some k ≠ v.ownBlock)
    (HO : Own kRow 49 W base v xs) (HB : Below base w0 W) (hbase : base ≤ W.heap.size) (hl : xs.length + 1 ≤ 1000000) (h : ∀ v1 w1, Own kRow 49 w1 base v1 (xs ++ [p]) → Below base w0 w1 → wpList Tryz.prog ops Q rest (a.put o.dst v1) w1) : wpList Tryz.prog ops Q (o :: rest) a (W.alloc (.cells cs.toArray 49)) :=
  Kd.N_append kRow (w0 := w0) (W := W) base hgd s x 63 49 (.slice none 0 0) 24 ho Tryz.underlying63 infoRow rfl (by decide) (by decide) v xs p cs (fun _ => True) okp hs hx hp (fun k hk => ⟨trivial, hok k hk⟩) (fun _ _ => trivial) HO HB hbase (by omega) (fun v1 w1 h1 h2 _ _ => h v1 w1 h1 h2)
theorem pushAllRow {w0 W : World} (base : Nat) (hgd : o.guard = none) (s x : Operand) (ho : o.op = .call { callee := .builtin .append, args := #[s, x], argTypes := #[63, 63] }) (v : Value) (xs ys : List _) (A : Option Addr) (m c : Nat) (okp : Nat → Prop) (hs : a.eval s = v) (hx : a.eval x = .slice A m c) (HR : Kd.F kRow W okp A m ys) (hok : ∀ k, okp k → some k ≠ v.ownBlock)
    (HO : Own kRow 49 W base v xs) (HB : Below base w0 W) (hbase : base ≤ W.heap.size) (hl : xs.length + m ≤ 1000000) (h : ∀ v1 w1, Own kRow 49 w1 base v1 (xs ++ ys) → Below base w0 w1 → wpList Tryz.prog ops Q rest (a.put o.dst v1) w1) : wpList Tryz.prog ops Q (o :: rest) a (W) :=
  Kd.N_append_rows kRow (w0 := w0) (W := W) base hgd s x 63 49 (.slice none 0 0) 24 ho Tryz.underlying63 infoRow rfl (by decide) (by decide) v xs ys A m c (fun _ => True) okp hs hx HO HR (fun k hk => ⟨trivial, hok k hk⟩) (fun _ _ => trivial) HB hbase (by omega) (fun v1 w1 h1 h2 _ _ => h v1 w1 h1 h2)
theorem pushRow_step {w0 W : World} (base : Nat) (hw : Region.wanted o (yielded ops a.tmps) = true) (s x : Operand) (ho : o.op = .call { callee := .builtin .append, args := #[s, x], argTypes := #[63, 63] }) (v : Value) (xs : List _) (p : _) (cs : List Value) (okp : Nat → Prop) (hs : a.eval s = v) (hx : a.eval x = .slice (some ⟨W.heap.size, 0, none⟩) 1 1) (hp : Kd.FK kRow W okp p cs) (hok : ∀ k, okp k → some k ≠ v.ownBlock)
    (HO : Own kRow 49 W base v xs) (HB : Below base w0 W) (hbase : base ≤ W.heap.size) (hl : xs.length + 1 ≤ 1000000) (h : ∀ v1 w1, Own kRow 49 w1 base v1 (xs ++ [p]) → Below base w0 w1 → Kc (a.put o.dst v1) w1) : if Region.wanted o (yielded ops a.tmps) = true then Oper.wp Tryz.prog o a (W.alloc (.cells cs.toArray 49)) Kc Q else Kc (a.put o.dst undef) (W.alloc (.cells cs.toArray 49)) :=
  Kd.N_append_step kRow (w0 := w0) (W := W) base hw s x 63 49 (.slice none 0 0) 24 ho Tryz.underlying63 infoRow rfl (by decide) (by decide) v xs p cs (fun _ => True) okp hs hx hp (fun k hk => ⟨trivial, hok k hk⟩) (fun _ _ => trivial) HO HB hbase (by omega) (fun v1 w1 h1 h2 _ _ => h v1 w1 h1 h2)
theorem pushAllRow_step {w0 W : World} (base : Nat) (hw : Region.wanted o (yielded ops a.tmps) = true) (s x : Operand) (ho : o.op = .call { callee := .builtin .append, args := #[s, x], argTypes := #[63, 63] }) (v : Value) (xs ys : List _) (A : Option Addr) (m c : Nat) (okp : Nat → Prop) (hs : a.eval s = v) (hx : a.eval x = .slice A m c) (HR : Kd.F kRow W okp A m ys) (hok : ∀ k, okp k → some k ≠ v.ownBlock)
    (HO : Own kRow 49 W base v xs) (HB : Below base w0 W) (hbase : base ≤ W.heap.size) (hl : xs.length + m ≤ 1000000) (h : ∀ v1 w1, Own kRow 49 w1 base v1 (xs ++ ys) → Below base w0 w1 → Kc (a.put o.dst v1) w1) : if Region.wanted o (yielded ops a.tmps) = true then Oper.wp Tryz.prog o a (W) Kc Q else Kc (a.put o.dst undef) (W) :=
  Kd.N_append_rows_step kRow (w0 := w0) (W := W) base hw s x 63 49 (.slice none 0 0) 24 ho Tryz.underlying63 infoRow rfl (by decide) (by decide) v xs ys A m c (fun _ => True) okp hs hx HO HR (fun k hk => ⟨trivial, hok k hk⟩) (fun _ _ => trivial) HB hbase (by omega) (fun v1 w1 h1 h2 _ _ => h v1 w1 h1 h2)
theorem infoWri : (Tryz.prog.info? 60).map (fun i => (i.zero, i.size, i.bytes)) = some (some (.agg #[.int .i64 0, .string ⟨#[]⟩, .slice none 0 0, .int .i64 0, .string ⟨#[]⟩, .slice none 0 0, .int .i64 0, .string ⟨#[]⟩, .int .i64 0, .bool false]), kWri.sz, 136) := by kernel_rfl
theorem pushWri {w0 W : World} (base : Nat) (hgd : o.guard = none) (s x : Operand) (ho : o.op = .call { callee := .builtin .append, args := #[s, x], argTypes := #[33, 33] }) (v : Value) (xs : List _) (p : _) (cs : List Value) (okp : Nat → Prop) (hs : a.eval s = v) (hx : a.eval x = .slice (some ⟨W.heap.size, 0, none⟩) 1 1) (hp : Kd.FK kWri W okp p cs) (hok : ∀ k, okp k → some k ≠ v.ownBlock)
    (HO : Own kWri 60 W base v xs) (HB : Below base w0 W) (hbase : base ≤ W.heap.size) (hl : xs.length + 1 ≤ 1000000) (h : ∀ v1 w1, Own kWri 60 w1 base v1 (xs ++ [p]) → Below base w0 w1 → wpList Tryz.prog ops Q rest (a.put o.dst v1) w1) : wpList Tryz.prog ops Q (o :: rest) a (W.alloc (.cells cs.toArray 60)) :=
  Kd.N_append kWri (w0 := w0) (W := W) base hgd s x 33 60 (.agg #[.int .i64 0, .string ⟨#[]⟩, .slice none 0 0, .int .i64 0, .string ⟨#[]⟩, .slice none 0 0, .int .i64 0, .string ⟨#[]⟩, .int .i64 0, .bool false]) 136 ho Tryz.underlying33 infoWri rfl (by decide) (by decide) v xs p cs (fun _ => True) okp hs hx hp (fun k hk => ⟨trivial, hok k hk⟩) (fun _ _ => trivial) HO HB hbase (by omega) (fun v1 w1 h1 h2 _ _ => h v1 w1 h1 h2)
theorem pushAllWri {w0 W : World} (base : Nat) (hgd : o.guard = none) (s x : Operand) (ho : o.op = .call { callee := .builtin .append, args := #[s, x], argTypes := #[33, 33] }) (v : Value) (xs ys : List _) (A : Option Addr) (m c : Nat) (okp : Nat → Prop) (hs : a.eval s = v) (hx : a.eval x = .slice A m c) (HR : Kd.F kWri W okp A m ys) (hok : ∀ k, okp k → some k ≠ v.ownBlock)
    (HO : Own kWri 60 W base v xs) (HB : Below base w0 W) (hbase : base ≤ W.heap.size) (hl : xs.length + m ≤ 1000000) (h : ∀ v1 w1, Own kWri 60 w1 base v1 (xs ++ ys) → Below base w0 w1 → wpList Tryz.prog ops Q rest (a.put o.dst v1) w1) : wpList Tryz.prog ops Q (o :: rest) a (W) :=
  Kd.N_append_rows kWri (w0 := w0) (W := W) base hgd s x 33 60 (.agg #[.int .i64 0, .string ⟨#[]⟩, .slice none 0 0, .int .i64 0, .string ⟨#[]⟩, .slice none 0 0, .int .i64 0, .string ⟨#[]⟩, .int .i64 0, .bool false]) 136 ho Tryz.underlying33 infoWri rfl (by decide) (by decide) v xs ys A m c (fun _ => True) okp hs hx HO HR (fun k hk => ⟨trivial, hok k hk⟩) (fun _ _ => trivial) HB hbase (by omega) (fun v1 w1 h1 h2 _ _ => h v1 w1 h1 h2)
theorem pushWri_step {w0 W : World} (base : Nat) (hw : Region.wanted o (yielded ops a.tmps) = true) (s x : Operand) (ho : o.op = .call { callee := .builtin .append, args := #[s, x], argTypes := #[33, 33] }) (v : Value) (xs : List _) (p : _) (cs : List Value) (okp : Nat → Prop) (hs : a.eval s = v) (hx : a.eval x = .slice (some ⟨W.heap.size, 0, none⟩) 1 1) (hp : Kd.FK kWri W okp p cs) (hok : ∀ k, okp k → some k ≠ v.ownBlock)
    (HO : Own kWri 60 W base v xs) (HB : Below base w0 W) (hbase : base ≤ W.heap.size) (hl : xs.length + 1 ≤ 1000000) (h : ∀ v1 w1, Own kWri 60 w1 base v1 (xs ++ [p]) → Below base w0 w1 → Kc (a.put o.dst v1) w1) : if Region.wanted o (yielded ops a.tmps) = true then Oper.wp Tryz.prog o a (W.alloc (.cells cs.toArray 60)) Kc Q else Kc (a.put o.dst undef) (W.alloc (.cells cs.toArray 60)) :=
  Kd.N_append_step kWri (w0 := w0) (W := W) base hw s x 33 60 (.agg #[.int .i64 0, .string ⟨#[]⟩, .slice none 0 0, .int .i64 0, .string ⟨#[]⟩, .slice none 0 0, .int .i64 0, .string ⟨#[]⟩, .int .i64 0, .bool false]) 136 ho Tryz.underlying33 infoWri rfl (by decide) (by decide) v xs p cs (fun _ => True) okp hs hx hp (fun k hk => ⟨trivial, hok k hk⟩) (fun _ _ => trivial) HO HB hbase (by omega) (fun v1 w1 h1 h2 _ _ => h v1 w1 h1 h2)
theorem pushAllWri_step {w0 W : World} (base : Nat) (hw : Region.wanted o (yielded ops a.tmps) = true) (s x : Operand) (ho : o.op = .call { callee := .builtin .append, args := #[s, x], argTypes := #[33, 33] }) (v : Value) (xs ys : List _) (A : Option Addr) (m c : Nat) (okp : Nat → Prop) (hs : a.eval s = v) (hx : a.eval x = .slice A m c) (HR : Kd.F kWri W okp A m ys) (hok : ∀ k, okp k → some k ≠ v.ownBlock)
    (HO : Own kWri 60 W base v xs) (HB : Below base w0 W) (hbase : base ≤ W.heap.size) (hl : xs.length + m ≤ 1000000) (h : ∀ v1 w1, Own kWri 60 w1 base v1 (xs ++ ys) → Below base w0 w1 → Kc (a.put o.dst v1) w1) : if Region.wanted o (yielded ops a.tmps) = true then Oper.wp Tryz.prog o a (W) Kc Q else Kc (a.put o.dst undef) (W) :=
  Kd.N_append_rows_step kWri (w0 := w0) (W := W) base hw s x 33 60 (.agg #[.int .i64 0, .string ⟨#[]⟩, .slice none 0 0, .int .i64 0, .string ⟨#[]⟩, .slice none 0 0, .int .i64 0, .string ⟨#[]⟩, .int .i64 0, .bool false]) 136 ho Tryz.underlying33 infoWri rfl (by decide) (by decide) v xs ys A m c (fun _ => True) okp hs hx HO HR (fun k hk => ⟨trivial, hok k hk⟩) (fun _ _ => trivial) HB hbase (by omega) (fun v1 w1 h1 h2 _ _ => h v1 w1 h1 h2)
theorem infoEv : (Tryz.prog.info? 55).map (fun i => (i.zero, i.size, i.bytes)) = some (some (.agg #[.int .i64 0, .int .i64 0, .string ⟨#[]⟩, .slice none 0 0, .slice none 0 0, .int .i64 0, .string ⟨#[]⟩, .slice none 0 0, .int .i64 0, .string ⟨#[]⟩, .int .i64 0, .bool false]), kEv.sz, 168) := by kernel_rfl
theorem pushEv {w0 W : World} (base : Nat) (hgd : o.guard = none) (s x : Operand) (ho : o.op = .call { callee := .builtin .append, args := #[s, x], argTypes := #[24, 24] }) (v : Value) (xs : List _) (p : _) (cs : List Value) (okp : Nat → Prop) (hs : a.eval s = v) (hx : a.eval x = .slice (some ⟨W.heap.size, 0, none⟩) 1 1) (hp : Kd.FK kEv W okp p cs) (hok : ∀ k, okp k → some k ≠ v.ownBlock)
    (HO : Own kEv 55 W base v xs) (HB : Below base w0 W) (hbase : base ≤ W.heap.size) (hl : xs.length + 1 ≤ 1000000) (h : ∀ v1 w1, Own kEv 55 w1 base v1 (xs ++ [p]) → Below base w0 w1 → wpList Tryz.prog ops Q rest (a.put o.dst v1) w1) : wpList Tryz.prog ops Q (o :: rest) a (W.alloc (.cells cs.toArray 55)) :=
  Kd.N_append kEv (w0 := w0) (W := W) base hgd s x 24 55 (.agg #[.int .i64 0, .int .i64 0, .string ⟨#[]⟩, .slice none 0 0, .slice none 0 0, .int .i64 0, .string ⟨#[]⟩, .slice none 0 0, .int .i64 0, .string ⟨#[]⟩, .int .i64 0, .bool false]) 168 ho Tryz.underlying24 infoEv rfl (by decide) (by decide) v xs p cs (fun _ => True) okp hs hx hp (fun k hk => ⟨trivial, hok k hk⟩) (fun _ _ => trivial) HO HB hbase (by omega) (fun v1 w1 h1 h2 _ _ => h v1 w1 h1 h2)
theorem pushAllEv {w0 W : World} (base : Nat) (hgd : o.guard = none) (s x : Operand) (ho : o.op = .call { callee := .builtin .append, args := #[s, x], argTypes := #[24, 24] }) (v : Value) (xs ys : List _) (A : Option Addr) (m c : Nat) (okp : Nat → Prop) (hs : a.eval s = v) (hx : a.eval x = .slice A m c) (HR : Kd.F kEv W okp A m ys) (hok : ∀ k, okp k → some k ≠ v.ownBlock)
    (HO : Own kEv 55 W base v xs) (HB : Below base w0 W) (hbase : base ≤ W.heap.size) (hl : xs.length + m ≤ 1000000) (h : ∀ v1 w1, Own kEv 55 w1 base v1 (xs ++ ys) → Below base w0 w1 → wpList Tryz.prog ops Q rest (a.put o.dst v1) w1) : wpList Tryz.prog ops Q (o :: rest) a (W) :=
  Kd.N_append_rows kEv (w0 := w0) (W := W) base hgd s x 24 55 (.agg #[.int .i64 0, .int .i64 0, .string ⟨#[]⟩, .slice none 0 0, .slice none 0 0, .int .i64 0, .string ⟨#[]⟩, .slice none 0 0, .int .i64 0, .string ⟨#[]⟩, .int .i64 0, .bool false]) 168 ho Tryz.underlying24 infoEv rfl (by decide) (by decide) v xs ys A m c (fun _ => True) okp hs hx HO HR (fun k hk => ⟨trivial, hok k hk⟩) (fun _ _ => trivial) HB hbase (by omega) (fun v1 w1 h1 h2 _ _ => h v1 w1 h1 h2)
theorem pushEv_step {w0 W : World} (base : Nat) (hw : Region.wanted o (yielded ops a.tmps) = true) (s x : Operand) (ho : o.op = .call { callee := .builtin .append, args := #[s, x], argTypes := #[24, 24] }) (v : Value) (xs : List _) (p : _) (cs : List Value) (okp : Nat → Prop) (hs : a.eval s = v) (hx : a.eval x = .slice (some ⟨W.heap.size, 0, none⟩) 1 1) (hp : Kd.FK kEv W okp p cs) (hok : ∀ k, okp k → some k ≠ v.ownBlock)
    (HO : Own kEv 55 W base v xs) (HB : Below base w0 W) (hbase : base ≤ W.heap.size) (hl : xs.length + 1 ≤ 1000000) (h : ∀ v1 w1, Own kEv 55 w1 base v1 (xs ++ [p]) → Below base w0 w1 → Kc (a.put o.dst v1) w1) : if Region.wanted o (yielded ops a.tmps) = true then Oper.wp Tryz.prog o a (W.alloc (.cells cs.toArray 55)) Kc Q else Kc (a.put o.dst undef) (W.alloc (.cells cs.toArray 55)) :=
  Kd.N_append_step kEv (w0 := w0) (W := W) base hw s x 24 55 (.agg #[.int .i64 0, .int .i64 0, .string ⟨#[]⟩, .slice none 0 0, .slice none 0 0, .int .i64 0, .string ⟨#[]⟩, .slice none 0 0, .int .i64 0, .string ⟨#[]⟩, .int .i64 0, .bool false]) 168 ho Tryz.underlying24 infoEv rfl (by decide) (by decide) v xs p cs (fun _ => True) okp hs hx hp (fun k hk => ⟨trivial, hok k hk⟩) (fun _ _ => trivial) HO HB hbase (by omega) (fun v1 w1 h1 h2 _ _ => h v1 w1 h1 h2)
theorem pushAllEv_step {w0 W : World} (base : Nat) (hw : Region.wanted o (yielded ops a.tmps) = true) (s x : Operand) (ho : o.op = .call { callee := .builtin .append, args := #[s, x], argTypes := #[24, 24] }) (v : Value) (xs ys : List _) (A : Option Addr) (m c : Nat) (okp : Nat → Prop) (hs : a.eval s = v) (hx : a.eval x = .slice A m c) (HR : Kd.F kEv W okp A m ys) (hok : ∀ k, okp k → some k ≠ v.ownBlock)
    (HO : Own kEv 55 W base v xs) (HB : Below base w0 W) (hbase : base ≤ W.heap.size) (hl : xs.length + m ≤ 1000000) (h : ∀ v1 w1, Own kEv 55 w1 base v1 (xs ++ ys) → Below base w0 w1 → Kc (a.put o.dst v1) w1) : if Region.wanted o (yielded ops a.tmps) = true then Oper.wp Tryz.prog o a (W) Kc Q else Kc (a.put o.dst undef) (W) :=
  Kd.N_append_rows_step kEv (w0 := w0) (W := W) base hw s x 24 55 (.agg #[.int .i64 0, .int .i64 0, .string ⟨#[]⟩, .slice none 0 0, .slice none 0 0, .int .i64 0, .string ⟨#[]⟩, .slice none 0 0, .int .i64 0, .string ⟨#[]⟩, .int .i64 0, .bool false]) 168 ho Tryz.underlying24 infoEv rfl (by decide) (by decide) v xs ys A m c (fun _ => True) okp hs hx HO HR (fun k hk => ⟨trivial, hok k hk⟩) (fun _ _ => trivial) HB hbase (by omega) (fun v1 w1 h1 h2 _ _ => h v1 w1 h1 h2)
end
theorem heap_Val : Kd.Heap kVal := Kd.heap_iso _ (Kd.heap_pair (Kd.heap_int _) (Kd.heap_pair (Kd.heap_int _) Kd.heap_string))
theorem heap_Col : Kd.Heap kCol := Kd.heap_iso _ (Kd.heap_pair Kd.heap_string (Kd.heap_pair (Kd.heap_int _) Kd.heap_bool))
theorem heap_Wrk : Kd.Heap kWrk := Kd.heap_iso _ (Kd.heap_pair Kd.heap_string (Kd.heap_pair Kd.heap_bool Kd.heap_string))
theorem heap_Sch : Kd.Heap kSch := Kd.heap_iso _ (Kd.heap_pair (Kd.heap_slice _ heap_Col) (Kd.heap_int _))
theorem heap_Tab : Kd.Heap kTab := Kd.heap_iso _ (Kd.heap_pair Kd.heap_string heap_Sch)
theorem heap_Row : Kd.Heap kRow := Kd.heap_slice _ heap_Val
theorem fk_Val (w : World) (ok : Nat → Prop) (x : Val) : Kd.FK kVal w ok x [.int .i64 x.kind, .int .i64 x.num, .string x.text] := fun W' _ => kVal_mk W' x
theorem fk_Col (w : World) (ok : Nat → Prop) (x : Col) : Kd.FK kCol w ok x [.string x.name, .int .i64 x.kind, .bool x.none] := fun W' _ => kCol_mk W' x
theorem fk_Wrk (w : World) (ok : Nat → Prop) (x : Wrk) : Kd.FK kWrk w ok x [.string x.table, .bool x.done, .string x.key] := fun W' _ => kWrk_mk W' x
theorem fk_Tab {w : World} {ok : Nat → Prop} {x : Tab} {A : Option Addr} {c : Nat} (hl : x.schema.cols.length ≤ c) (h : Kd.F kCol w ok A x.schema.cols.length x.schema.cols) : Kd.FK kTab w ok x [.string x.name, .slice A x.schema.cols.length c, .int .i64 x.schema.keys] := fun W' hW => kTab_mk W' x hl (h W' hW)
theorem fk_Row {w : World} {ok : Nat → Prop} {x : List Val} {A : Option Addr} {c : Nat} (hl : x.length ≤ c) (h : Kd.F kVal w ok A x.length x) : Kd.FK kRow w ok x [.slice A x.length c] := fun W' hW => ⟨A, c, rfl, hl, h W' hW⟩
theorem fk_Wri {w : World} {ok : Nat → Prop} {x : Wri} {A B : Option Addr} {c d : Nat} (hl : x.row.length ≤ c) (h : Kd.F kVal w ok A x.row.length x.row) (hd : x.change.schema.cols.length ≤ d) (h2 : Kd.F kCol w ok B x.change.schema.cols.length x.change.schema.cols) : Kd.FK kWri w ok x [.int .i64 x.kind, .string x.table, .slice A x.row.length c, .int .i64 x.change.kind, .string x.change.table, .slice B x.change.schema.cols.length d, .int .i64 x.change.schema.keys, .string x.change.column.name, .int .i64 x.change.column.kind, .bool x.change.column.none] := fun W' hW => kWri_mk W' x hl (h W' hW) hd (h2 W' hW)
end Go.Proofs.YtmdofdaiepilbaaGreatDoor

/- Rows of the api's structs: their beginnings and ends. Conditions: the place lies in the row. Written by a program (gen_cuts.py of this claim's author). -/
namespace Go.Proofs.YtmdofdaiepilbaaGreatDoor
open Go.RowKit Go.Proofs.YtmdofdaiepilbaaGreatDoorW.PrintWords
set_option linter.unusedVariables false
set_option linter.unusedSimpArgs false
/-- where a row's end begins -/
def tailA (A : Option Addr) (c k sz : Nat) : Option Addr := if c = k then A else A.map (·.add (k * sz))
theorem take_C {α : Type} {d : Kd α} {w : World} {A : Option Addr} {L : List α} {k : Nat} (h : d.C w A L.length L) (hk : k ≤ L.length) : d.C w A k (L.take k) := by
  have h2 := Kd.C_take h hk
  rwa [List.length_take, Nat.min_eq_left hk] at h2
theorem drop_C {α : Type} {d : Kd α} {w : World} {A : Option Addr} {L : List α} {c k : Nat} (h : d.C w A L.length L) (hk : k ≤ L.length) (hc : L.length ≤ c) : d.C w (tailA A c k d.sz) (L.length - k) (L.drop k) := by
  have h2 := Kd.C_drop h hk hc
  rwa [List.length_drop] at h2
theorem und_Val : Tryz.prog.underlying 49 = some (.slice (Tryz.prog.elem 49)) := by
  have h : Tryz.prog.elem 49 = 75 := by kernel_rfl
  rw [h]; exact Tryz.underlying49
theorem elem_Val : Tryz.prog.elem 49 = 75 := by kernel_rfl
theorem size_Val (W : World) : (sizeOf 75).run Tryz.prog W = .ok 3 W := by kernel_rfl
theorem head_Val (A : Option Addr) (n c k : Nat) (hk : k ≤ c) (W : World) : (Instr.slice 49 (.slice A n c) none (some (.int .i64 k)) none).run Tryz.prog W = .ok (.slice A k c) W := by
  rw [run_slice_h W 49 A n c und_Val .i64 k (by omega) (by omega), elem_Val, size_Val]
  simp only [sliced, Result.andThen]
  cases A with
  | none => simp
  | some a => obtain ⟨k, o, i⟩ := a; cases i <;> simp [Addr.add]
theorem tail_Val (A : Option Addr) (n c k : Nat) (hk : k ≤ n) (hc : n ≤ c) (W : World) : (Instr.slice 49 (.slice A n c) (some (.int .i64 k)) none none).run Tryz.prog W = .ok (.slice (tailA A c k 3) (n - k) (c - k)) W := by
  rw [run_slice_l W 49 A n c und_Val .i64 k (by omega) (by omega), elem_Val, size_Val]
  simp only [sliced, Result.andThen]
  unfold tailA
  simp
theorem und_Col : Tryz.prog.underlying 41 = some (.slice (Tryz.prog.elem 41)) := by
  have h : Tryz.prog.elem 41 = 51 := by kernel_rfl
  rw [h]; exact Tryz.underlying41
theorem elem_Col : Tryz.prog.elem 41 = 51 := by kernel_rfl
theorem size_Col (W : World) : (sizeOf 51).run Tryz.prog W = .ok 3 W := by kernel_rfl
theorem head_Col (A : Option Addr) (n c k : Nat) (hk : k ≤ c) (W : World) : (Instr.slice 41 (.slice A n c) none (some (.int .i64 k)) none).run Tryz.prog W = .ok (.slice A k c) W := by
  rw [run_slice_h W 41 A n c und_Col .i64 k (by omega) (by omega), elem_Col, size_Col]
  simp only [sliced, Result.andThen]
  cases A with
  | none => simp
  | some a => obtain ⟨k, o, i⟩ := a; cases i <;> simp [Addr.add]
theorem tail_Col (A : Option Addr) (n c k : Nat) (hk : k ≤ n) (hc : n ≤ c) (W : World) : (Instr.slice 41 (.slice A n c) (some (.int .i64 k)) none none).run Tryz.prog W = .ok (.slice (tailA A c k 3) (n - k) (c - k)) W := by
  rw [run_slice_l W 41 A n c und_Col .i64 k (by omega) (by omega), elem_Col, size_Col]
  simp only [sliced, Result.andThen]
  unfold tailA
  simp
theorem und_Tab : Tryz.prog.underlying 22 = some (.slice (Tryz.prog.elem 22)) := by
  have h : Tryz.prog.elem 22 = 45 := by kernel_rfl
  rw [h]; exact Tryz.underlying22
theorem elem_Tab : Tryz.prog.elem 22 = 45 := by kernel_rfl
theorem size_Tab (W : World) : (sizeOf 45).run Tryz.prog W = .ok 3 W := by kernel_rfl
theorem head_Tab (A : Option Addr) (n c k : Nat) (hk : k ≤ c) (W : World) : (Instr.slice 22 (.slice A n c) none (some (.int .i64 k)) none).run Tryz.prog W = .ok (.slice A k c) W := by
  rw [run_slice_h W 22 A n c und_Tab .i64 k (by omega) (by omega), elem_Tab, size_Tab]
  simp only [sliced, Result.andThen]
  cases A with
  | none => simp
  | some a => obtain ⟨k, o, i⟩ := a; cases i <;> simp [Addr.add]
theorem tail_Tab (A : Option Addr) (n c k : Nat) (hk : k ≤ n) (hc : n ≤ c) (W : World) : (Instr.slice 22 (.slice A n c) (some (.int .i64 k)) none none).run Tryz.prog W = .ok (.slice (tailA A c k 3) (n - k) (c - k)) W := by
  rw [run_slice_l W 22 A n c und_Tab .i64 k (by omega) (by omega), elem_Tab, size_Tab]
  simp only [sliced, Result.andThen]
  unfold tailA
  simp
theorem und_Wrk : Tryz.prog.underlying 23 = some (.slice (Tryz.prog.elem 23)) := by
  have h : Tryz.prog.elem 23 = 47 := by kernel_rfl
  rw [h]; exact Tryz.underlying23
theorem elem_Wrk : Tryz.prog.elem 23 = 47 := by kernel_rfl
theorem size_Wrk (W : World) : (sizeOf 47).run Tryz.prog W = .ok 3 W := by kernel_rfl
theorem head_Wrk (A : Option Addr) (n c k : Nat) (hk : k ≤ c) (W : World) : (Instr.slice 23 (.slice A n c) none (some (.int .i64 k)) none).run Tryz.prog W = .ok (.slice A k c) W := by
  rw [run_slice_h W 23 A n c und_Wrk .i64 k (by omega) (by omega), elem_Wrk, size_Wrk]
  simp only [sliced, Result.andThen]
  cases A with
  | none => simp
  | some a => obtain ⟨k, o, i⟩ := a; cases i <;> simp [Addr.add]
theorem tail_Wrk (A : Option Addr) (n c k : Nat) (hk : k ≤ n) (hc : n ≤ c) (W : World) : (Instr.slice 23 (.slice A n c) (some (.int .i64 k)) none none).run Tryz.prog W = .ok (.slice (tailA A c k 3) (n - k) (c - k)) W := by
  rw [run_slice_l W 23 A n c und_Wrk .i64 k (by omega) (by omega), elem_Wrk, size_Wrk]
  simp only [sliced, Result.andThen]
  unfold tailA
  simp
theorem und_Row : Tryz.prog.underlying 63 = some (.slice (Tryz.prog.elem 63)) := by
  have h : Tryz.prog.elem 63 = 49 := by kernel_rfl
  rw [h]; exact Tryz.underlying63
theorem elem_Row : Tryz.prog.elem 63 = 49 := by kernel_rfl
theorem size_Row (W : World) : (sizeOf 49).run Tryz.prog W = .ok 1 W := by kernel_rfl
theorem head_Row (A : Option Addr) (n c k : Nat) (hk : k ≤ c) (W : World) : (Instr.slice 63 (.slice A n c) none (some (.int .i64 k)) none).run Tryz.prog W = .ok (.slice A k c) W := by
  rw [run_slice_h W 63 A n c und_Row .i64 k (by omega) (by omega), elem_Row, size_Row]
  simp only [sliced, Result.andThen]
  cases A with
  | none => simp
  | some a => obtain ⟨k, o, i⟩ := a; cases i <;> simp [Addr.add]
theorem tail_Row (A : Option Addr) (n c k : Nat) (hk : k ≤ n) (hc : n ≤ c) (W : World) : (Instr.slice 63 (.slice A n c) (some (.int .i64 k)) none none).run Tryz.prog W = .ok (.slice (tailA A c k 1) (n - k) (c - k)) W := by
  rw [run_slice_l W 63 A n c und_Row .i64 k (by omega) (by omega), elem_Row, size_Row]
  simp only [sliced, Result.andThen]
  unfold tailA
  simp
end Go.Proofs.YtmdofdaiepilbaaGreatDoor

/- Own rows of works and columns: their places, and a field that is written. Conditions: the place lies in the row. -/
namespace Go.Proofs.YtmdofdaiepilbaaGreatDoor
open Go.RowKit Go.Proofs.YtmdofdaiepilbaaGreatDoorW.PrintWords
set_option linter.unusedVariables false
set_option linter.unusedSimpArgs false
theorem Own.form {α : Type} {d : Kd α} {e : Nat} {w : World} {base : Nat} {v : Value} {xs : List α} (h : Own d e w base v xs) (hp : 0 < xs.length) : ∃ g cap, v = .slice (some ⟨g, 0, none⟩) xs.length cap ∧ base ≤ g ∧ g < w.heap.size := by
  obtain ⟨g, cap, h1, h2, h3, _⟩ := Kd.N_form h hp
  exact ⟨g, cap, h1, h2, h3⟩
theorem Own.wrk {w : World} {base g n cap : Nat} {l : List Wrk} (h : Own kWrk 47 w base (.slice (some ⟨g, 0, none⟩) n cap) l) (i : Nat) (hi : i < l.length) :
    w.cell? ⟨g, i * 3 + 1, none⟩ = some (.bool (rdWrk l i).done) ∧ w.cell? ⟨g, i * 3 + 2, none⟩ = some (.string (rdWrk l i).key) ∧ w.frozen? ⟨g, i * 3 + 1, none⟩ = false ∧ w.frozen? ⟨g, i * 3 + 2, none⟩ = false ∧ (∀ b : Bool, Own kWrk 47 (w.setCell ⟨g, i * 3 + 1, none⟩ (.bool b)) base (.slice (some ⟨g, 0, none⟩) n cap) (l.set i { rdWrk l i with done := b })) ∧ (∀ b : ByteArray, Own kWrk 47 (w.setCell ⟨g, i * 3 + 2, none⟩ (.string b)) base (.slice (some ⟨g, 0, none⟩) n cap) (l.set i { rdWrk l i with key := b })) := by
  have hn : n = l.length := (Kd.N_reads' h).1
  obtain ⟨c, hcl, hK, hcc, hfr⟩ := Kd.N_elem h zWrk (i : Int) (by omega) (by omega)
  rw [Int.toNat_natCast] at hK hcc hfr
  have hc := kWrk_open (Kd.FK_now hK)
  have hrd : l.getD i zWrk = rdWrk l i := rfl
  rw [hrd] at hc
  refine ⟨hcc 1 _ (by rw [hc]; rfl), hcc 2 _ (by rw [hc]; rfl), hfr 1, hfr 2, fun b => ?_, fun b => ?_⟩
  · obtain ⟨h1, _⟩ := Kd.N_seg h (i : Int) (by omega) (by omega) (c := c) (seg := [.bool b]) (j := 1) hcl (by rw [Int.toNat_natCast]; exact hcc) (by simp [kWrk, Kd.iso, Kd.pair, Kd.bool, Kd.string, Kd.scalar]) (x' := { rdWrk l i with done := b }) (okp := fun _ => False) (by rw [hc]; exact fk_Wrk _ _ { rdWrk l i with done := b }) (fun _ h => h.elim)
    rw [Int.toNat_natCast] at h1
    exact h1
  · obtain ⟨h1, _⟩ := Kd.N_seg h (i : Int) (by omega) (by omega) (c := c) (seg := [.string b]) (j := 2) hcl (by rw [Int.toNat_natCast]; exact hcc) (by simp [kWrk, Kd.iso, Kd.pair, Kd.bool, Kd.string, Kd.scalar]) (x' := { rdWrk l i with key := b }) (okp := fun _ => False) (by rw [hc]; exact fk_Wrk _ _ { rdWrk l i with key := b }) (fun _ h => h.elim)
    rw [Int.toNat_natCast] at h1
    exact h1
theorem Own.col {w : World} {base g n cap : Nat} {l : List Col} (h : Own kCol 51 w base (.slice (some ⟨g, 0, none⟩) n cap) l) (i : Nat) (hi : i < l.length) :
    w.cell? ⟨g, i * 3 + 1, none⟩ = some (.int .i64 (rdCol l i).kind) ∧ w.cell? ⟨g, i * 3 + 2, none⟩ = some (.bool (rdCol l i).none) ∧ w.frozen? ⟨g, i * 3 + 1, none⟩ = false ∧ w.frozen? ⟨g, i * 3 + 2, none⟩ = false ∧ (∀ k : Int, Own kCol 51 (w.setCell ⟨g, i * 3 + 1, none⟩ (.int .i64 k)) base (.slice (some ⟨g, 0, none⟩) n cap) (l.set i { rdCol l i with kind := k })) ∧ (∀ b : Bool, Own kCol 51 (w.setCell ⟨g, i * 3 + 2, none⟩ (.bool b)) base (.slice (some ⟨g, 0, none⟩) n cap) (l.set i { rdCol l i with none := b })) := by
  have hn : n = l.length := (Kd.N_reads' h).1
  obtain ⟨c, hcl, hK, hcc, hfr⟩ := Kd.N_elem h zCol (i : Int) (by omega) (by omega)
  rw [Int.toNat_natCast] at hK hcc hfr
  have hc := kCol_open (Kd.FK_now hK)
  have hrd : l.getD i zCol = rdCol l i := rfl
  rw [hrd] at hc
  refine ⟨hcc 1 _ (by rw [hc]; rfl), hcc 2 _ (by rw [hc]; rfl), hfr 1, hfr 2, fun b => ?_, fun b => ?_⟩
  · obtain ⟨h1, _⟩ := Kd.N_seg h (i : Int) (by omega) (by omega) (c := c) (seg := [.int .i64 b]) (j := 1) hcl (by rw [Int.toNat_natCast]; exact hcc) (by simp [kCol, Kd.iso, Kd.pair, Kd.int, Kd.bool, Kd.string, Kd.scalar]) (x' := { rdCol l i with kind := b }) (okp := fun _ => False) (by rw [hc]; exact fk_Col _ _ { rdCol l i with kind := b }) (fun _ h => h.elim)
    rw [Int.toNat_natCast] at h1
    exact h1
  · obtain ⟨h1, _⟩ := Kd.N_seg h (i : Int) (by omega) (by omega) (c := c) (seg := [.bool b]) (j := 2) hcl (by rw [Int.toNat_natCast]; exact hcc) (by simp [kCol, Kd.iso, Kd.pair, Kd.int, Kd.bool, Kd.string, Kd.scalar]) (x' := { rdCol l i with none := b }) (okp := fun _ => False) (by rw [hc]; exact fk_Col _ _ { rdCol l i with none := b }) (fun _ h => h.elim)
    rw [Int.toNat_natCast] at h1
    exact h1
/-- an own row of elements without memory stands where its one block stands -/
theorem Own.flat {α : Type} {d : Kd α} (hfl : ∀ (w w' : World) (x : α) (c : List Value), d.K w x c → d.K w' x c) {e : Nat} {w w1 : World} {base : Nat} {v : Value} {xs : List α} (h : Own d e w base v xs) (hm : ∀ k, v.ownBlock = some k → w1.heap[k]? = w.heap[k]?) : Own d e w1 base v xs := by
  obtain ⟨h0, rows, hl, hR, hf⟩ := h
  exact ⟨fun _ _ => trivial, rows, hl, Kd.R_step hR (fun k hk _ => hm k hk.symm), fun j x c hx hc => fun W' _ => hfl _ W' _ _ (Kd.FK_now (hf j x c hx hc))⟩
theorem flat_Col (w w' : World) (x : Col) (c : List Value) (h : kCol.K w x c) : kCol.K w' x c := by obtain rfl := kCol_open h; exact kCol_mk w' x
theorem flat_Val (w w' : World) (x : Val) (c : List Value) (h : kVal.K w x c) : kVal.K w' x c := by obtain rfl := kVal_open h; exact kVal_mk w' x
theorem flat_Wrk (w w' : World) (x : Wrk) (c : List Value) (h : kWrk.K w x c) : kWrk.K w' x c := by obtain rfl := kWrk_open h; exact kWrk_mk w' x
theorem add0 (b k : Nat) : (⟨b, 0, none⟩ : Addr).add k = ⟨b, k, none⟩ := add_plain b k
theorem C_one {α : Type} {d : Kd α} {w : World} {b T : Nat} {x : α} {cs : Array Value} (hb : w.heap[b]? = some (.cells cs T (0, 0))) (hK : d.K w x cs.toList) : d.C w (some ⟨b, 0, none⟩) 1 [x] :=
  ⟨rfl, by decide, fun _ => ⟨_, rfl, fun j p hj => by
    obtain rfl : j = 0 := by
      rcases j with _ | j
      · rfl
      · simp at hj
    simp only [List.getElem?_cons_zero, Option.some.injEq] at hj
    subst hj
    refine ⟨cs.toList, d.K_len hK, hK, fun i u hu => ?_⟩
    have := cell_of_row w b i _ _ _ hb
    rw [show (⟨b, 0, none⟩ : Addr).add (0 * d.sz + i) = ⟨b, i, none⟩ from by rw [Nat.zero_mul, Nat.zero_add]; exact add0 b i]
    rw [this]
    simpa using hu⟩⟩
end Go.Proofs.YtmdofdaiepilbaaGreatDoor
