/- An event by value, read as data, opened. -/
import Derived.Test.YtapcoekakbbmcaaGreatDoorEvReads
namespace Go.Proofs.YtapcoekakbbmcaaGreatDoor.Open
open Go.RowKit Go.Proofs.YtapcoekakbbmcaaGreatDoorW.PrintWords
open Go.WideShapes
set_option linter.unusedVariables false
theorem deepV {P : Program} {H : Type} {enc : TypeId × Value → H} {W : World} {base j : Nat} {t : TypeId} {fs : Array Field} {α : Type} {d : Kd α} {ok : α → Prop} {v : Value} {dv : DataW H} {p : List MemPlace} {ts : List TypeId} {ds : List (DataW H)}
    (R : Reads P t d ok) (hu : P.underlying t = some (.struct fs)) (hsz : (DataW.weightsEach P ts ds).all (· ≤ reachBytes) = true) (ht : ts[j]? = some t) (hd : ds[j]? = some dv)
    (hv : Value.okWide P W .any base t v) (h : DataW.Trod enc P W 0 (fun _ => true) true t v dv p) :
    ∃ a cs, v = .agg cs ∧ d.K W a cs.toList ∧ ok a := by
  obtain ⟨cs, rfl, hcz⟩ := okWide_struct hu hv
  obtain ⟨fuel, hf⟩ := h
  obtain ⟨e, h1, h2⟩ := R.read hf (fun n hn => by
    have := List.all_eq_true.1 hsz _ (DataW.weights_mem_each ht hd n hn)
    simpa using this)
  exact ⟨e, cs, rfl, h1, h2⟩
set_option maxRecDepth 100000 in
theorem event {H : Type} {enc : TypeId × Value → H} {W : World} {base j : Nat} {v : Value} {dv : DataW H} {p : List MemPlace} {ts : List TypeId} {ds : List (DataW H)}
    (hsz : (DataW.weightsEach Tryz.prog ts ds).all (· ≤ reachBytes) = true) (ht : ts[j]? = some 32) (hd : ds[j]? = some dv)
    (hv : Value.okWide Tryz.prog W .any base 32 v) (h : DataW.Trod enc Tryz.prog W 0 (fun _ => true) true 32 v dv p) :
    ∃ (e : Ev) (A3 A4 A7 : Option Addr) (c3 c4 c7 : Nat), v = .agg #[.int .i64 e.kind, .int .i64 e.num, .string e.table, .slice A3 e.before.length c3, .slice A4 e.after.length c4, .int .i64 e.change.kind, .string e.change.table, .slice A7 e.change.schema.cols.length c7, .int .i64 e.change.schema.keys, .string e.change.column.name, .int .i64 e.change.column.kind, .bool e.change.column.none] ∧
      kVal.C W A3 e.before.length e.before ∧ kVal.C W A4 e.after.length e.after ∧ kCol.C W A7 e.change.schema.cols.length e.change.schema.cols ∧ e.before.length ≤ c3 ∧ e.after.length ≤ c4 ∧ e.change.schema.cols.length ≤ c7 ∧ e.before.length * 32 ≤ 140737488355328 ∧ e.after.length * 32 ≤ 140737488355328 ∧ evOk e := by
  obtain ⟨e, cs, rfl, h1, h2⟩ := deepV rd_Ev Tryz.underlying32 hsz ht hd hv h
  obtain ⟨A3, c3, A4, c4, A7, c7, hcs, l3, g3, l4, g4, l7, g7⟩ := kEv_open h1
  have hq : cs.toList = [.int .i64 e.kind, .int .i64 e.num, .string e.table, .slice A3 e.before.length c3, .slice A4 e.after.length c4, .int .i64 e.change.kind, .string e.change.table, .slice A7 e.change.schema.cols.length c7, .int .i64 e.change.schema.keys, .string e.change.column.name, .int .i64 e.change.column.kind, .bool e.change.column.none] := hcs
  have hqq := congrArg List.toArray hq
  rw [Array.toArray_toList] at hqq
  subst hqq
  have h3 : e.before.length * 32 ≤ reachBytes := h2.2.2.2.1.2
  have h4 : e.after.length * 32 ≤ reachBytes := h2.2.2.2.2.1.2
  have hr : reachBytes ≤ 140737488355328 := by unfold reachBytes; omega
  exact ⟨e, A3, A4, A7, c3, c4, c7, rfl, g3, g4, g7, l3, l4, l7, Nat.le_trans h3 hr, Nat.le_trans h4 hr, h2⟩
end Go.Proofs.YtapcoekakbbmcaaGreatDoor.Open
