/- What the two comparisons of events tell of any two events: one and the same answer. The walks are the printed ones; here: what they compute, in plain Lean. -/
import Derived.Test.YtapcoekakbbmcaaGreatDoorPWalSamex4
import Derived.Test.YtapcoekakbbmcaaGreatDoorPWalSamex5
import Derived.Test.YtapcoekakbbmcaaGreatDoorApiMore
namespace Go.Proofs.YtapcoekakbbmcaaGreatDoor
open Go.RowKit Go.Proofs.YtapcoekakbbmcaaGreatDoorW.PrintWords
set_option linter.unusedVariables false
set_option linter.unusedSimpArgs false
def eqs {α : Type} (p : α → α → Bool) : List α → List α → Bool
  | [], [] => true
  | x :: xs, y :: ys => p x y && eqs p xs ys
  | _, _ => false
theorem eqs_len {α : Type} (p : α → α → Bool) : ∀ (xs ys : List α), xs.length ≠ ys.length → eqs p xs ys = false
  | [], [], h => absurd rfl h
  | [], _ :: _, _ => rfl
  | _ :: _, [], _ => rfl
  | x :: xs, y :: ys, h => by
    have := eqs_len p xs ys (by simpa using h)
    simp [eqs, this]
theorem eqs_refl {α : Type} (p : α → α → Bool) (hp : ∀ x, p x x = true) : ∀ xs : List α, eqs p xs xs = true
  | [] => rfl
  | x :: xs => by simp [eqs, hp x, eqs_refl p hp xs]
theorem eqs_drop {α : Type} (p : α → α → Bool) (xs ys : List α) (z : α) (k : Nat) (hx : k < xs.length) (hy : k < ys.length) : eqs p (xs.drop k) (ys.drop k) = (p (xs.getD k z) (ys.getD k z) && eqs p (xs.drop (k + 1)) (ys.drop (k + 1))) := by
  have h1 : xs.drop k = xs.getD k z :: xs.drop (k + 1) := by rw [List.drop_eq_getElem_cons hx]; simp [List.getD_eq_getElem?_getD, hx]
  have h2 : ys.drop k = ys.getD k z :: ys.drop (k + 1) := by rw [List.drop_eq_getElem_cons hy]; simp [List.getD_eq_getElem?_getD, hy]
  rw [h1, h2, eqs]
theorem eqs_map {α β : Type} (p : α → α → Bool) (q : β → β → Bool) (f : α → β) (h : ∀ x y, q (f x) (f y) = p x y) : ∀ xs ys : List α, eqs q (xs.map f) (ys.map f) = eqs p xs ys
  | [], [] => rfl
  | [], _ :: _ => rfl
  | _ :: _, [] => rfl
  | x :: xs, y :: ys => by simp [eqs, h, eqs_map p q f h xs ys]
namespace Ex
open PWalSame
def p70 (a b : S70) : Bool := a.f0 == b.f0 && (a.f1 == b.f1 && a.f2.toList == b.f2.toList)
def p28 (a b : S28) : Bool := a.f0.toList == b.f0.toList && (a.f1 == b.f1 && a.f2 == b.f2)
theorem not70 (a b : S70) : (!(a.f0 == b.f0) || (!(a.f1 == b.f1) || (!(a.f2.toList == b.f2.toList)))) = !p70 a b := by unfold p70; cases a.f0 == b.f0 <;> cases a.f1 == b.f1 <;> cases a.f2.toList == b.f2.toList <;> rfl
theorem not28 (a b : S28) : (!(a.f0.toList == b.f0.toList) || (!(a.f1 == b.f1) || (!(a.f2 == b.f2)))) = !p28 a b := by unfold p28; cases a.f0.toList == b.f0.toList <;> cases a.f1 == b.f1 <;> cases a.f2 == b.f2 <;> rfl
theorem wrap_succ {i n : Nat} (h : i < n) (hn : n ≤ 9223372036854775807) : wrap64 ((i : Int) + 1) = ((i + 1 : Nat) : Int) := by unfold wrap64; omega
theorem l03 : ∀ (k : Nat) (xs ys : List S70) (i : Nat), xs.length = ys.length → xs.length ≤ 9223372036854775807 → i ≤ xs.length → xs.length - i < k → pantographref03_Same.l0 k xs ys i = some (eqs p70 (xs.drop i) (ys.drop i))
  | 0, _, _, _, _, _, _, h => absurd h (by omega)
  | k + 1, xs, ys, i, he, hn, hi, hk => by
    rw [pantographref03_Same.l0]
    by_cases hlt : i < xs.length
    · rw [if_pos (by omega), if_pos (by omega), if_pos (by omega), not70, eqs_drop p70 xs ys z70 i hlt (by omega), wrap_succ hlt hn]
      have hr : ∀ l : List S70, rd_T70 l (i : Int) = l.getD i z70 := fun l => by unfold rd_T70; rw [Int.toNat_natCast]
      rw [hr, hr, l03 k xs ys (i + 1) he hn (by omega) (by omega)]
      cases p70 (xs.getD i z70) (ys.getD i z70) <;> simp
    · obtain rfl : i = xs.length := by omega
      rw [if_neg (by omega), List.drop_length, he, List.drop_length]
      rfl
theorem f03 (xs ys : List S70) (k : Nat) (hn : xs.length ≤ 9223372036854775807) (hk : xs.length < k) : pantographref03_Same.f k xs ys = some (eqs p70 xs ys) := by
  unfold pantographref03_Same.f
  by_cases he : xs.length = ys.length
  · rw [if_pos (by omega)]
    simpa using l03 k xs ys 0 he hn (by omega) (by omega)
  · rw [if_neg (by omega), eqs_len _ _ _ he]
theorem l107 : ∀ (k : Nat) (xs ys : List S70) (i : Nat), xs.length = ys.length → xs.length ≤ 9223372036854775807 → i ≤ xs.length → xs.length - i < k → api_Value_107.l0 k xs ys xs.length i = some (eqs p70 (xs.drop i) (ys.drop i))
  | 0, _, _, _, _, _, _, h => absurd h (by omega)
  | k + 1, xs, ys, i, he, hn, hi, hk => by
    rw [api_Value_107.l0]
    by_cases hlt : i < xs.length
    · rw [if_pos (by omega), if_pos (by omega), if_pos (by omega), if_pos (by omega), not70, eqs_drop p70 xs ys z70 i hlt (by omega), wrap_succ hlt hn]
      have hr : ∀ l : List S70, rd_T70 l (i : Int) = l.getD i z70 := fun l => by unfold rd_T70; rw [Int.toNat_natCast]
      rw [hr, hr, l107 k xs ys (i + 1) he hn (by omega) (by omega)]
      cases p70 (xs.getD i z70) (ys.getD i z70) <;> simp
    · obtain rfl : i = xs.length := by omega
      rw [if_neg (by omega), List.drop_length, he, List.drop_length]
      rfl
theorem f107 (xs ys : List S70) (k : Nat) (hn : xs.length ≤ 9223372036854775807) (hk : xs.length < k) : api_Value_107.f k xs ys = some (eqs p70 xs ys) := by
  unfold api_Value_107.f
  by_cases he : xs.length = ys.length
  · rw [if_pos (by omega)]
    simpa using l107 k xs ys 0 he hn (by omega) (by omega)
  · rw [if_neg (by omega), eqs_len _ _ _ he]
theorem l04 : ∀ (k : Nat) (xs ys : List S28) (a b : Int) (i : Nat), xs.length = ys.length → xs.length ≤ 9223372036854775807 → i ≤ xs.length → xs.length - i < k → pantographref04_Same.l0 k i xs a ys b = some (eqs p28 (xs.drop i) (ys.drop i))
  | 0, _, _, _, _, _, _, _, _, h => absurd h (by omega)
  | k + 1, xs, ys, a, b, i, he, hn, hi, hk => by
    rw [pantographref04_Same.l0]
    by_cases hlt : i < xs.length
    · rw [if_pos (by omega), if_pos (by omega), if_pos (by omega), not28, eqs_drop p28 xs ys z28 i hlt (by omega), wrap_succ hlt hn]
      have hr : ∀ l : List S28, rd_T28 l (i : Int) = l.getD i z28 := fun l => by unfold rd_T28; rw [Int.toNat_natCast]
      rw [hr, hr, l04 k xs ys a b (i + 1) he hn (by omega) (by omega)]
      cases p28 (xs.getD i z28) (ys.getD i z28) <;> simp
    · obtain rfl : i = xs.length := by omega
      rw [if_neg (by omega), List.drop_length, he, List.drop_length]
      rfl
theorem f04 (xs ys : List S28) (a b : Int) (k : Nat) (hn : xs.length ≤ 9223372036854775807) (hk : xs.length + 1 < k) : pantographref04_Same.f k xs a ys b = some (a == b && eqs p28 xs ys) := by
  unfold pantographref04_Same.f
  obtain ⟨k, rfl⟩ : ∃ m, k = m + 1 := ⟨k - 1, by omega⟩
  by_cases hab : a = b
  · rw [if_pos hab, pantographref04_Same.j0]
    by_cases he : xs.length = ys.length
    · rw [if_neg (by simp [he])]
      have := l04 k xs ys a b 0 he hn (by omega) (by omega)
      rw [show (0 : Int) = ((0 : Nat) : Int) from rfl, this]
      simp [hab]
    · rw [if_pos (by simpa using (by omega : ¬ (xs.length : Int) = ys.length)), eqs_len _ _ _ he]
      simp
  · rw [if_neg hab, pantographref04_Same.j0, if_pos rfl]
    simp [hab]
theorem l164 : ∀ (k : Nat) (xs ys : List S28) (i : Nat), xs.length = ys.length → xs.length ≤ 9223372036854775807 → i ≤ xs.length → xs.length - i < k → api_Column_164.l0 k xs ys xs.length i = some (eqs p28 (xs.drop i) (ys.drop i))
  | 0, _, _, _, _, _, _, h => absurd h (by omega)
  | k + 1, xs, ys, i, he, hn, hi, hk => by
    rw [api_Column_164.l0]
    by_cases hlt : i < xs.length
    · rw [if_pos (by omega), if_pos (by omega), if_pos (by omega), if_pos (by omega), not28, eqs_drop p28 xs ys z28 i hlt (by omega), wrap_succ hlt hn]
      have hr : ∀ l : List S28, rd_T28 l (i : Int) = l.getD i z28 := fun l => by unfold rd_T28; rw [Int.toNat_natCast]
      rw [hr, hr, l164 k xs ys (i + 1) he hn (by omega) (by omega)]
      cases p28 (xs.getD i z28) (ys.getD i z28) <;> simp
    · obtain rfl : i = xs.length := by omega
      rw [if_neg (by omega), List.drop_length, he, List.drop_length]
      rfl
theorem f164 (xs ys : List S28) (k : Nat) (hn : xs.length ≤ 9223372036854775807) (hk : xs.length < k) : api_Column_164.f k xs ys = some (eqs p28 xs ys) := by
  unfold api_Column_164.f
  by_cases he : xs.length = ys.length
  · rw [if_pos (by omega)]
    simpa using l164 k xs ys 0 he hn (by omega) (by omega)
  · rw [if_neg (by omega), eqs_len _ _ _ he]
def t70 (x : Val) : S70 := ⟨x.kind, x.num, x.text⟩
def t28 (x : Col) : S28 := ⟨x.name, x.kind, x.none⟩
theorem C70 {w : World} {A : Option Addr} {n : Nat} {l : List Val} (h : kVal.C w A n l) : k70.C w A n (l.map t70) := by
  obtain ⟨h1, h2, h3⟩ := h
  refine ⟨by simpa using h1, h2, fun hn => ?_⟩
  obtain ⟨ad, e, h4⟩ := h3 hn
  refine ⟨ad, e, fun j p hj => ?_⟩
  rw [List.getElem?_map] at hj
  obtain ⟨q, hq, rfl⟩ := Option.map_eq_some_iff.1 hj
  exact h4 j q hq
theorem C28 {w : World} {A : Option Addr} {n : Nat} {l : List Col} (h : kCol.C w A n l) : k28.C w A n (l.map t28) := by
  obtain ⟨h1, h2, h3⟩ := h
  refine ⟨by simpa using h1, h2, fun hn => ?_⟩
  obtain ⟨ad, e, h4⟩ := h3 hn
  refine ⟨ad, e, fun j p hj => ?_⟩
  rw [List.getElem?_map] at hj
  obtain ⟨q, hq, rfl⟩ := Option.map_eq_some_iff.1 hj
  exact h4 j q hq
end Ex
def eqV (a b : Val) : Bool := a.kind == b.kind && (a.num == b.num && a.text.toList == b.text.toList)
def eqC (a b : Col) : Bool := a.name.toList == b.name.toList && (a.kind == b.kind && a.none == b.none)
def eqG (a b : Chg) : Bool := a.kind == b.kind && (a.table.toList == b.table.toList && ((a.schema.keys == b.schema.keys && eqs eqC a.schema.cols b.schema.cols) && eqC a.column b.column))
def eqE (a b : Ev) : Bool := a.kind == b.kind && (a.num == b.num && (a.table.toList == b.table.toList && (eqs eqV a.before b.before && (eqs eqV a.after b.after && eqG a.change b.change))))
theorem eqV_refl (a : Val) : eqV a a = true := by simp [eqV]
theorem eqC_refl (a : Col) : eqC a a = true := by simp [eqC]
theorem eqG_refl (a : Chg) : eqG a a = true := by simp [eqG, eqC_refl, eqs_refl eqC eqC_refl]
theorem eqE_refl (a : Ev) : eqE a a = true := by simp [eqE, eqG_refl, eqs_refl eqV eqV_refl]
open Ex PWalSame in
theorem refE (A3 B3 A4 B4 A7 B7 : Option Addr) (c3 d3 c4 d4 c7 d7 : Nat) (x y : Ev) (w : World) (hA3 : kVal.C w A3 x.before.length x.before) (hB3 : kVal.C w B3 y.before.length y.before) (hA4 : kVal.C w A4 x.after.length x.after) (hB4 : kVal.C w B4 y.after.length y.after) (hA7 : kCol.C w A7 x.change.schema.cols.length x.change.schema.cols) (hB7 : kCol.C w B7 y.change.schema.cols.length y.change.schema.cols)
    (l3 : x.before.length ≤ c3) (m3 : y.before.length ≤ d3) (l4 : x.after.length ≤ c4) (m4 : y.after.length ≤ d4) (l7 : x.change.schema.cols.length ≤ c7) (m7 : y.change.schema.cols.length ≤ d7) :
    Calls Tryz.prog 31 #[.agg #[.int .i64 x.kind, .int .i64 x.num, .string x.table, .slice A3 x.before.length c3, .slice A4 x.after.length c4, .int .i64 x.change.kind, .string x.change.table, .slice A7 x.change.schema.cols.length c7, .int .i64 x.change.schema.keys, .string x.change.column.name, .int .i64 x.change.column.kind, .bool x.change.column.none], .agg #[.int .i64 y.kind, .int .i64 y.num, .string y.table, .slice B3 y.before.length d3, .slice B4 y.after.length d4, .int .i64 y.change.kind, .string y.change.table, .slice B7 y.change.schema.cols.length d7, .int .i64 y.change.schema.keys, .string y.change.column.name, .int .i64 y.change.column.kind, .bool y.change.column.none]] w fun e w' => e = .returned (.bool (eqE x y)) ∧ Below w.heap.size w w' := by
  have key : pantographref06_Same.f (x.before.length + x.after.length + x.change.schema.cols.length + 2) x.kind x.num x.table (x.before.map t70) (x.after.map t70) x.change.kind x.change.table (x.change.schema.cols.map t28) x.change.schema.keys x.change.column.name x.change.column.kind x.change.column.none y.kind y.num y.table (y.before.map t70) (y.after.map t70) y.change.kind y.change.table (y.change.schema.cols.map t28) y.change.schema.keys y.change.column.name y.change.column.kind y.change.column.none = some (eqE x y) := by
    unfold pantographref06_Same.f pantographref06_change.f
    rw [f04 _ _ _ _ _ (by simpa using hA7.2.1) (by simp; omega), f03 _ _ _ (by simpa using hA3.2.1) (by simp; omega), f03 _ _ _ (by simpa using hA4.2.1) (by simp; omega)]
    rw [eqs_map eqV p70 t70 (fun _ _ => rfl), eqs_map eqV p70 t70 (fun _ _ => rfl), eqs_map eqC p28 t28 (fun _ _ => rfl)]
    unfold eqE eqG
    by_cases h1 : x.kind = y.kind <;> by_cases h2 : x.num = y.num <;> by_cases h3 : x.change.kind = y.change.kind <;> by_cases h4 : x.change.table.toList = y.change.table.toList <;> cases x.change.schema.keys == y.change.schema.keys <;> cases eqs eqC x.change.schema.cols y.change.schema.cols <;> cases eqs eqV x.before y.before <;> cases eqs eqV x.after y.after <;> simp [h1, h2, h3, h4, eqC]
    cases hq1 : x.change.column.name.toList == y.change.column.name.toList <;> cases hq2 : x.change.column.kind == y.change.column.kind <;> cases hq3 : x.change.column.none == y.change.column.none <;> simp_all
  have := pantographref06_Same.calls _ x.kind x.num x.table A3 c3 (x.before.map t70) A4 c4 (x.after.map t70) x.change.kind x.change.table A7 c7 (x.change.schema.cols.map t28) x.change.schema.keys x.change.column.name x.change.column.kind x.change.column.none y.kind y.num y.table B3 d3 (y.before.map t70) B4 d4 (y.after.map t70) y.change.kind y.change.table B7 d7 (y.change.schema.cols.map t28) y.change.schema.keys y.change.column.name y.change.column.kind y.change.column.none _ w (by simpa using C70 hA3) (by simpa using l3) (by simpa using C70 hA4) (by simpa using l4) (by simpa using C28 hA7) (by simpa using l7) (by simpa using C70 hB3) (by simpa using m3) (by simpa using C70 hB4) (by simpa using m4) (by simpa using C28 hB7) (by simpa using m7) key
  simpa only [List.length_map] using this
open Ex PWalSame in
theorem evE (A3 B3 A4 B4 A7 B7 : Option Addr) (c3 d3 c4 d4 c7 d7 : Nat) (x y : Ev) (w : World) (hA3 : kVal.C w A3 x.before.length x.before) (hB3 : kVal.C w B3 y.before.length y.before) (hA4 : kVal.C w A4 x.after.length x.after) (hB4 : kVal.C w B4 y.after.length y.after) (hA7 : kCol.C w A7 x.change.schema.cols.length x.change.schema.cols) (hB7 : kCol.C w B7 y.change.schema.cols.length y.change.schema.cols)
    (l3 : x.before.length ≤ c3) (m3 : y.before.length ≤ d3) (l4 : x.after.length ≤ c4) (m4 : y.after.length ≤ d4) (l7 : x.change.schema.cols.length ≤ c7) (m7 : y.change.schema.cols.length ≤ d7) :
    Calls Tryz.prog 65 #[.agg #[.int .i64 x.kind, .int .i64 x.num, .string x.table, .slice A3 x.before.length c3, .slice A4 x.after.length c4, .int .i64 x.change.kind, .string x.change.table, .slice A7 x.change.schema.cols.length c7, .int .i64 x.change.schema.keys, .string x.change.column.name, .int .i64 x.change.column.kind, .bool x.change.column.none], .agg #[.int .i64 y.kind, .int .i64 y.num, .string y.table, .slice B3 y.before.length d3, .slice B4 y.after.length d4, .int .i64 y.change.kind, .string y.change.table, .slice B7 y.change.schema.cols.length d7, .int .i64 y.change.schema.keys, .string y.change.column.name, .int .i64 y.change.column.kind, .bool y.change.column.none]] w fun e w' => e = .returned (.bool (eqE x y)) ∧ Below w.heap.size w w' := by
  have key : event_Same.f (x.before.length + x.after.length + x.change.schema.cols.length + 2) x.kind x.num x.table (x.before.map t70) (x.after.map t70) x.change.kind x.change.table (x.change.schema.cols.map t28) x.change.schema.keys x.change.column.name x.change.column.kind x.change.column.none y.kind y.num y.table (y.before.map t70) (y.after.map t70) y.change.kind y.change.table (y.change.schema.cols.map t28) y.change.schema.keys y.change.column.name y.change.column.kind y.change.column.none = some (eqE x y) := by
    unfold event_Same.f event_same.f schema_Same.f
    rw [f164 _ _ _ (by simpa using hA7.2.1) (by simp; omega), f107 _ _ _ (by simpa using hA3.2.1) (by simp; omega), f107 _ _ _ (by simpa using hA4.2.1) (by simp; omega)]
    rw [eqs_map eqV p70 t70 (fun _ _ => rfl), eqs_map eqV p70 t70 (fun _ _ => rfl), eqs_map eqC p28 t28 (fun _ _ => rfl)]
    unfold eqE eqG
    by_cases h1 : x.kind = y.kind <;> by_cases h2 : x.num = y.num <;> by_cases h3 : x.change.kind = y.change.kind <;> by_cases h4 : x.change.table.toList = y.change.table.toList <;> by_cases h5 : x.change.schema.keys = y.change.schema.keys <;> cases eqs eqC x.change.schema.cols y.change.schema.cols <;> cases eqs eqV x.before y.before <;> cases eqs eqV x.after y.after <;> simp [h1, h2, h3, h4, h5, eqC]
    all_goals (cases hq0 : x.table.toList == y.table.toList <;> cases hq1 : x.change.column.name.toList == y.change.column.name.toList <;> cases hq2 : x.change.column.kind == y.change.column.kind <;> cases hq3 : x.change.column.none == y.change.column.none <;> simp_all)
  have := event_Same.calls _ x.kind x.num x.table A3 c3 (x.before.map t70) A4 c4 (x.after.map t70) x.change.kind x.change.table A7 c7 (x.change.schema.cols.map t28) x.change.schema.keys x.change.column.name x.change.column.kind x.change.column.none y.kind y.num y.table B3 d3 (y.before.map t70) B4 d4 (y.after.map t70) y.change.kind y.change.table B7 d7 (y.change.schema.cols.map t28) y.change.schema.keys y.change.column.name y.change.column.kind y.change.column.none _ w (by simpa using C70 hA3) (by simpa using l3) (by simpa using C70 hA4) (by simpa using l4) (by simpa using C28 hA7) (by simpa using l7) (by simpa using C70 hB3) (by simpa using m3) (by simpa using C70 hB4) (by simpa using m4) (by simpa using C28 hB7) (by simpa using m7) key
  simpa only [List.length_map] using this
end Go.Proofs.YtapcoekakbbmcaaGreatDoor
