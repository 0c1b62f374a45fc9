/- What the document's Put does. Conditions: the rows read so. -/
import Derived.Test.YtjkgafijifkfcaaTxSame
import Derived.Test.YtjkgafijifkfcaaWNEv
import Derived.Deep.RegionLaw
import Derived.StillTailTactics
namespace Go.Proofs.Ytjkgafijifkfcaa
open Go.RowKit Go.Proofs.YtjkgafijifkfcaaW.PrintWords
set_option linter.unusedVariables false
set_option linter.unusedSimpArgs false
def RefTell (ok : Nat → Prop) (base : Nat) (w : World) (lim : Int) (p : PR) (e : Ending) (w' : World) : Prop :=
  ∃ v v2, e = .returned (.tuple #[.agg #[.int .i64 lim, .int .i64 p.num, v], v2, .bool p.t, .int .i64 p.r]) ∧ Kd.N kEv 49 w' base ok v p.xs ∧ Kd.N kEv 49 w' base ok v2 p.out ∧ Below w.heap.size w w'
theorem RefTell.mk {ok : Nat → Prop} {base : Nat} {w w' : World} {lim num r : Int} {xs out : List Ev} {t : Bool} (v v2 : Value) (h1 : Kd.N kEv 49 w' base ok v xs) (h2 : Kd.N kEv 49 w' base ok v2 out) (h3 : Below w.heap.size w w') :
  RefTell ok base w lim ⟨num, xs, out, t, r⟩ (.returned (.tuple #[.agg #[.int .i64 lim, .int .i64 num, v], v2, .bool t, .int .i64 r])) w' := ⟨v, v2, rfl, h1, h2, h3⟩
theorem ref_below (w : World) (a b c d : Obj) : Below w.heap.size w ((((w.alloc a).alloc b).alloc c).alloc d) := below_alloc (below_alloc (below_alloc (below_alloc (Below.refl _ _) _) _) _) _
theorem beq_of_kind (k j m : Int) (h : k = m) : (k == j) = (m == j) := by rw [h]
set_option maxRecDepth 100000 in
set_option maxHeartbeats 4000000 in
theorem ref_other (ok : Nat → Prop) (base : Nat) (lim num : Int) (xs : List Ev) (x : Ev) (A : Option Addr) (c : Nat) {A3 A4 A7 : Option Addr} {c3 c4 c7 : Nat} (w : World) (hN : Kd.N kEv 49 w base ok (.slice A xs.length c) xs) (hk : ∀ j : Int, 2 ≤ j → j ≤ 8 → x.kind ≠ j):
    Calls Try.prog 29 #[.agg #[.int .i64 lim, .int .i64 num, .slice A xs.length c], .agg #[.int .i64 x.kind, .int .i64 x.num, .string x.table, .slice A3 x.before.length c3, .slice A4 x.after.length c4, .int .i64 x.change.kind, .string x.change.table, .slice A7 x.change.schema.cols.length c7, .int .i64 x.change.schema.keys, .string x.change.column.name, .int .i64 x.change.column.kind, .bool x.change.column.none]] w (RefTell ok base w lim ⟨num, xs, [], false, 0⟩) := by
  have HN := Aside0.mk hN
  clear hN
  have b2 : (x.kind == 2) = false := beq_eq_false_iff_ne.2 (hk 2 (by omega) (by omega))
  have b3 : (x.kind == 3) = false := beq_eq_false_iff_ne.2 (hk 3 (by omega) (by omega))
  have b4 : (x.kind == 4) = false := beq_eq_false_iff_ne.2 (hk 4 (by omega) (by omega))
  have b5 : (x.kind == 5) = false := beq_eq_false_iff_ne.2 (hk 5 (by omega) (by omega))
  have b6 : (x.kind == 6) = false := beq_eq_false_iff_ne.2 (hk 6 (by omega) (by omega))
  have b7 : (x.kind == 7) = false := beq_eq_false_iff_ne.2 (hk 7 (by omega) (by omega))
  have b8 : (x.kind == 8) = false := beq_eq_false_iff_ne.2 (hk 8 (by omega) (by omega))
  clear hk
  go_enter Try.func29, Try.ntmps29
  go_wp2
  exact bodyPost_ret (v := .tuple #[.agg #[.int .i64 lim, .int .i64 num, .slice A xs.length c], .slice none 0 0, .bool false, .int .i64 0]) (by simp [results, Try.results29, go_sem]) rfl (RefTell.mk _ _ (Kd.N_below HN.out (ref_below w _ _ _ _)) (Kd.N_nil _ _ _ _ _) (ref_below w _ _ _ _))

set_option maxRecDepth 100000 in
set_option maxHeartbeats 4000000 in
theorem ref_begin_open (ok : Nat → Prop) (base : Nat) (lim num : Int) (xs : List Ev) (x : Ev) (A : Option Addr) (c : Nat) {A3 A4 A7 : Option Addr} {c3 c4 c7 : Nat} (w : World) (hN : Kd.N kEv 49 w base ok (.slice A xs.length c) xs) (hk : x.kind = 2) (hn : 0 ≤ num):
    Calls Try.prog 29 #[.agg #[.int .i64 lim, .int .i64 num, .slice A xs.length c], .agg #[.int .i64 x.kind, .int .i64 x.num, .string x.table, .slice A3 x.before.length c3, .slice A4 x.after.length c4, .int .i64 x.change.kind, .string x.change.table, .slice A7 x.change.schema.cols.length c7, .int .i64 x.change.schema.keys, .string x.change.column.name, .int .i64 x.change.column.kind, .bool x.change.column.none]] w (RefTell ok base w lim ⟨num, xs, [], false, 14⟩) := by
  have HN := Aside0.mk hN
  clear hN
  have b2 := beq_of_kind x.kind 2 _ hk
  have b3 := beq_of_kind x.kind 3 _ hk
  have b4 := beq_of_kind x.kind 4 _ hk
  have b5 := beq_of_kind x.kind 5 _ hk
  have b6 := beq_of_kind x.kind 6 _ hk
  have b7 := beq_of_kind x.kind 7 _ hk
  have b8 := beq_of_kind x.kind 8 _ hk
  simp only [Int.reduceBEq] at b2 b3 b4 b5 b6 b7 b8
  clear hk
  go_enter Try.func29, Try.ntmps29
  go_wp2
  exact bodyPost_ret (v := .tuple #[.agg #[.int .i64 lim, .int .i64 num, .slice A xs.length c], .slice none 0 0, .bool false, .int .i64 14]) (by simp [results, Try.results29, go_sem]) rfl (RefTell.mk _ _ (Kd.N_below HN.out (ref_below w _ _ _ _)) (Kd.N_nil _ _ _ _ _) (ref_below w _ _ _ _))

set_option maxRecDepth 100000 in
set_option maxHeartbeats 4000000 in
theorem ref_begin (ok : Nat → Prop) (base : Nat) (lim num : Int) (xs : List Ev) (x : Ev) (A : Option Addr) (c : Nat) {A3 A4 A7 : Option Addr} {c3 c4 c7 : Nat} (w : World) (hN : Kd.N kEv 49 w base ok (.slice A xs.length c) xs) (hk : x.kind = 2):
    Calls Try.prog 29 #[.agg #[.int .i64 lim, .int .i64 (-1), .slice A xs.length c], .agg #[.int .i64 x.kind, .int .i64 x.num, .string x.table, .slice A3 x.before.length c3, .slice A4 x.after.length c4, .int .i64 x.change.kind, .string x.change.table, .slice A7 x.change.schema.cols.length c7, .int .i64 x.change.schema.keys, .string x.change.column.name, .int .i64 x.change.column.kind, .bool x.change.column.none]] w (RefTell ok base w lim ⟨x.num, [], [], false, 0⟩) := by
  have HN := Aside0.mk hN
  clear hN
  have b2 := beq_of_kind x.kind 2 _ hk
  have b3 := beq_of_kind x.kind 3 _ hk
  have b4 := beq_of_kind x.kind 4 _ hk
  have b5 := beq_of_kind x.kind 5 _ hk
  have b6 := beq_of_kind x.kind 6 _ hk
  have b7 := beq_of_kind x.kind 7 _ hk
  have b8 := beq_of_kind x.kind 8 _ hk
  simp only [Int.reduceBEq] at b2 b3 b4 b5 b6 b7 b8
  clear hk
  go_enter Try.func29, Try.ntmps29
  go_wp2
  exact bodyPost_ret (v := .tuple #[.agg #[.int .i64 lim, .int .i64 x.num, .slice none 0 0], .slice none 0 0, .bool false, .int .i64 0]) (by simp [results, Try.results29, go_sem]) rfl (RefTell.mk _ _ (Kd.N_nil _ _ _ _ _) (Kd.N_nil _ _ _ _ _) (ref_below w _ _ _ _))

set_option maxRecDepth 100000 in
set_option maxHeartbeats 4000000 in
theorem ref_hold_closed (ok : Nat → Prop) (base : Nat) (lim num : Int) (xs : List Ev) (x : Ev) (A : Option Addr) (c : Nat) {A3 A4 A7 : Option Addr} {c3 c4 c7 : Nat} (w : World) (hN : Kd.N kEv 49 w base ok (.slice A xs.length c) xs) (hk : x.kind = 3 ∨ x.kind = 4 ∨ x.kind = 5 ∨ x.kind = 6):
    Calls Try.prog 29 #[.agg #[.int .i64 lim, .int .i64 (-1), .slice A xs.length c], .agg #[.int .i64 x.kind, .int .i64 x.num, .string x.table, .slice A3 x.before.length c3, .slice A4 x.after.length c4, .int .i64 x.change.kind, .string x.change.table, .slice A7 x.change.schema.cols.length c7, .int .i64 x.change.schema.keys, .string x.change.column.name, .int .i64 x.change.column.kind, .bool x.change.column.none]] w (RefTell ok base w lim ⟨(-1), xs, [], false, 14⟩) := by
  have HN := Aside0.mk hN
  clear hN
  rcases hk with hk | hk | hk | hk
  all_goals
    have b2 := beq_of_kind x.kind 2 _ hk
    have b3 := beq_of_kind x.kind 3 _ hk
    have b4 := beq_of_kind x.kind 4 _ hk
    have b5 := beq_of_kind x.kind 5 _ hk
    have b6 := beq_of_kind x.kind 6 _ hk
    have b7 := beq_of_kind x.kind 7 _ hk
    have b8 := beq_of_kind x.kind 8 _ hk
    simp only [Int.reduceBEq] at b2 b3 b4 b5 b6 b7 b8
    clear hk
    go_enter Try.func29, Try.ntmps29
    go_wp2
    exact bodyPost_ret (v := .tuple #[.agg #[.int .i64 lim, .int .i64 (-1), .slice A xs.length c], .slice none 0 0, .bool false, .int .i64 14]) (by simp [results, Try.results29, go_sem]) rfl (RefTell.mk _ _ (Kd.N_below HN.out (ref_below w _ _ _ _)) (Kd.N_nil _ _ _ _ _) (ref_below w _ _ _ _))

set_option maxRecDepth 100000 in
set_option maxHeartbeats 4000000 in
theorem ref_hold_full (ok : Nat → Prop) (base : Nat) (lim num : Int) (xs : List Ev) (x : Ev) (A : Option Addr) (c : Nat) {A3 A4 A7 : Option Addr} {c3 c4 c7 : Nat} (w : World) (hN : Kd.N kEv 49 w base ok (.slice A xs.length c) xs) (hk : x.kind = 3 ∨ x.kind = 4 ∨ x.kind = 5 ∨ x.kind = 6) (hn : 0 ≤ num) (hf : lim ≤ xs.length):
    Calls Try.prog 29 #[.agg #[.int .i64 lim, .int .i64 num, .slice A xs.length c], .agg #[.int .i64 x.kind, .int .i64 x.num, .string x.table, .slice A3 x.before.length c3, .slice A4 x.after.length c4, .int .i64 x.change.kind, .string x.change.table, .slice A7 x.change.schema.cols.length c7, .int .i64 x.change.schema.keys, .string x.change.column.name, .int .i64 x.change.column.kind, .bool x.change.column.none]] w (RefTell ok base w lim ⟨num, xs, [], false, 13⟩) := by
  have HN := Aside0.mk hN
  clear hN
  rcases hk with hk | hk | hk | hk
  all_goals
    have b2 := beq_of_kind x.kind 2 _ hk
    have b3 := beq_of_kind x.kind 3 _ hk
    have b4 := beq_of_kind x.kind 4 _ hk
    have b5 := beq_of_kind x.kind 5 _ hk
    have b6 := beq_of_kind x.kind 6 _ hk
    have b7 := beq_of_kind x.kind 7 _ hk
    have b8 := beq_of_kind x.kind 8 _ hk
    simp only [Int.reduceBEq] at b2 b3 b4 b5 b6 b7 b8
    clear hk
    go_enter Try.func29, Try.ntmps29
    go_wp2
    exact bodyPost_ret (v := .tuple #[.agg #[.int .i64 lim, .int .i64 num, .slice A xs.length c], .slice none 0 0, .bool false, .int .i64 13]) (by simp [results, Try.results29, go_sem]) rfl (RefTell.mk _ _ (Kd.N_below HN.out (ref_below w _ _ _ _)) (Kd.N_nil _ _ _ _ _) (ref_below w _ _ _ _))

set_option maxRecDepth 100000 in
set_option maxHeartbeats 4000000 in
theorem ref_end_closed (ok : Nat → Prop) (base : Nat) (lim num : Int) (xs : List Ev) (x : Ev) (A : Option Addr) (c : Nat) {A3 A4 A7 : Option Addr} {c3 c4 c7 : Nat} (w : World) (hN : Kd.N kEv 49 w base ok (.slice A xs.length c) xs) (hk : x.kind = 7 ∨ x.kind = 8):
    Calls Try.prog 29 #[.agg #[.int .i64 lim, .int .i64 (-1), .slice A xs.length c], .agg #[.int .i64 x.kind, .int .i64 x.num, .string x.table, .slice A3 x.before.length c3, .slice A4 x.after.length c4, .int .i64 x.change.kind, .string x.change.table, .slice A7 x.change.schema.cols.length c7, .int .i64 x.change.schema.keys, .string x.change.column.name, .int .i64 x.change.column.kind, .bool x.change.column.none]] w (RefTell ok base w lim ⟨(-1), xs, [], false, 14⟩) := by
  have HN := Aside0.mk hN
  clear hN
  rcases hk with hk | hk
  all_goals
    have b2 := beq_of_kind x.kind 2 _ hk
    have b3 := beq_of_kind x.kind 3 _ hk
    have b4 := beq_of_kind x.kind 4 _ hk
    have b5 := beq_of_kind x.kind 5 _ hk
    have b6 := beq_of_kind x.kind 6 _ hk
    have b7 := beq_of_kind x.kind 7 _ hk
    have b8 := beq_of_kind x.kind 8 _ hk
    simp only [Int.reduceBEq] at b2 b3 b4 b5 b6 b7 b8
    clear hk
    go_enter Try.func29, Try.ntmps29
    go_wp2
    exact bodyPost_ret (v := .tuple #[.agg #[.int .i64 lim, .int .i64 (-1), .slice A xs.length c], .slice none 0 0, .bool false, .int .i64 14]) (by simp [results, Try.results29, go_sem]) rfl (RefTell.mk _ _ (Kd.N_below HN.out (ref_below w _ _ _ _)) (Kd.N_nil _ _ _ _ _) (ref_below w _ _ _ _))

set_option maxRecDepth 100000 in
set_option maxHeartbeats 4000000 in
theorem ref_end_bad (ok : Nat → Prop) (base : Nat) (lim num : Int) (xs : List Ev) (x : Ev) (A : Option Addr) (c : Nat) {A3 A4 A7 : Option Addr} {c3 c4 c7 : Nat} (w : World) (hN : Kd.N kEv 49 w base ok (.slice A xs.length c) xs) (hk : x.kind = 7 ∨ x.kind = 8) (hn : 0 ≤ num) (hb : (x.num != num) = true):
    Calls Try.prog 29 #[.agg #[.int .i64 lim, .int .i64 num, .slice A xs.length c], .agg #[.int .i64 x.kind, .int .i64 x.num, .string x.table, .slice A3 x.before.length c3, .slice A4 x.after.length c4, .int .i64 x.change.kind, .string x.change.table, .slice A7 x.change.schema.cols.length c7, .int .i64 x.change.schema.keys, .string x.change.column.name, .int .i64 x.change.column.kind, .bool x.change.column.none]] w (RefTell ok base w lim ⟨num, xs, [], false, 14⟩) := by
  have HN := Aside0.mk hN
  clear hN
  rcases hk with hk | hk
  all_goals
    have b2 := beq_of_kind x.kind 2 _ hk
    have b3 := beq_of_kind x.kind 3 _ hk
    have b4 := beq_of_kind x.kind 4 _ hk
    have b5 := beq_of_kind x.kind 5 _ hk
    have b6 := beq_of_kind x.kind 6 _ hk
    have b7 := beq_of_kind x.kind 7 _ hk
    have b8 := beq_of_kind x.kind 8 _ hk
    simp only [Int.reduceBEq] at b2 b3 b4 b5 b6 b7 b8
    clear hk
    go_enter Try.func29, Try.ntmps29
    go_wp2
    exact bodyPost_ret (v := .tuple #[.agg #[.int .i64 lim, .int .i64 num, .slice A xs.length c], .slice none 0 0, .bool false, .int .i64 14]) (by simp [results, Try.results29, go_sem]) rfl (RefTell.mk _ _ (Kd.N_below HN.out (ref_below w _ _ _ _)) (Kd.N_nil _ _ _ _ _) (ref_below w _ _ _ _))

set_option maxRecDepth 100000 in
set_option maxHeartbeats 4000000 in
theorem ref_end_told (ok : Nat → Prop) (base : Nat) (lim num : Int) (xs : List Ev) (x : Ev) (A : Option Addr) (c : Nat) {A3 A4 A7 : Option Addr} {c3 c4 c7 : Nat} (w : World) (hN : Kd.N kEv 49 w base ok (.slice A xs.length c) xs) (hk : x.kind = 7) (hn : 0 ≤ num) (hb : (x.num != num) = false):
    Calls Try.prog 29 #[.agg #[.int .i64 lim, .int .i64 num, .slice A xs.length c], .agg #[.int .i64 x.kind, .int .i64 x.num, .string x.table, .slice A3 x.before.length c3, .slice A4 x.after.length c4, .int .i64 x.change.kind, .string x.change.table, .slice A7 x.change.schema.cols.length c7, .int .i64 x.change.schema.keys, .string x.change.column.name, .int .i64 x.change.column.kind, .bool x.change.column.none]] w (RefTell ok base w lim ⟨(-1), [], xs, true, 0⟩) := by
  have HN := Aside0.mk hN
  clear hN
  have b2 := beq_of_kind x.kind 2 _ hk
  have b3 := beq_of_kind x.kind 3 _ hk
  have b4 := beq_of_kind x.kind 4 _ hk
  have b5 := beq_of_kind x.kind 5 _ hk
  have b6 := beq_of_kind x.kind 6 _ hk
  have b7 := beq_of_kind x.kind 7 _ hk
  have b8 := beq_of_kind x.kind 8 _ hk
  simp only [Int.reduceBEq] at b2 b3 b4 b5 b6 b7 b8
  clear hk
  go_enter Try.func29, Try.ntmps29
  go_wp2
  go_region
  go_wp2
  exact bodyPost_ret (v := .tuple #[.agg #[.int .i64 lim, .int .i64 (-1), .slice none 0 0], .slice A xs.length c, .bool true, .int .i64 0]) (by simp [results, Try.results29, go_sem]) rfl (RefTell.mk _ _ (Kd.N_nil _ _ _ _ _) (Kd.N_below HN.out (ref_below w _ _ _ _).drew) (ref_below w _ _ _ _).drew)

set_option maxRecDepth 100000 in
set_option maxHeartbeats 4000000 in
theorem ref_end_abort (ok : Nat → Prop) (base : Nat) (lim num : Int) (xs : List Ev) (x : Ev) (A : Option Addr) (c : Nat) {A3 A4 A7 : Option Addr} {c3 c4 c7 : Nat} (w : World) (hN : Kd.N kEv 49 w base ok (.slice A xs.length c) xs) (hk : x.kind = 8) (hn : 0 ≤ num) (hb : (x.num != num) = false):
    Calls Try.prog 29 #[.agg #[.int .i64 lim, .int .i64 num, .slice A xs.length c], .agg #[.int .i64 x.kind, .int .i64 x.num, .string x.table, .slice A3 x.before.length c3, .slice A4 x.after.length c4, .int .i64 x.change.kind, .string x.change.table, .slice A7 x.change.schema.cols.length c7, .int .i64 x.change.schema.keys, .string x.change.column.name, .int .i64 x.change.column.kind, .bool x.change.column.none]] w (RefTell ok base w lim ⟨(-1), [], [], false, 0⟩) := by
  have HN := Aside0.mk hN
  clear hN
  have b2 := beq_of_kind x.kind 2 _ hk
  have b3 := beq_of_kind x.kind 3 _ hk
  have b4 := beq_of_kind x.kind 4 _ hk
  have b5 := beq_of_kind x.kind 5 _ hk
  have b6 := beq_of_kind x.kind 6 _ hk
  have b7 := beq_of_kind x.kind 7 _ hk
  have b8 := beq_of_kind x.kind 8 _ hk
  simp only [Int.reduceBEq] at b2 b3 b4 b5 b6 b7 b8
  clear hk
  go_enter Try.func29, Try.ntmps29
  go_wp2
  exact bodyPost_ret (v := .tuple #[.agg #[.int .i64 lim, .int .i64 (-1), .slice none 0 0], .slice none 0 0, .bool false, .int .i64 0]) (by simp [results, Try.results29, go_sem]) rfl (RefTell.mk _ _ (Kd.N_nil _ _ _ _ _) (Kd.N_nil _ _ _ _ _) (ref_below w _ _ _ _))

end Go.Proofs.Ytjkgafijifkfcaa
