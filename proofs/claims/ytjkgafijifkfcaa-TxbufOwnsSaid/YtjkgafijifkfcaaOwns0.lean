/- Rows of values whose one block is known, and what a buffer does with an event that holds such a row. Conditions: the rows read so. -/
import Derived.Test.YtjkgafijifkfcaaPlays0
import Derived.Test.YtjkgafijifkfcaaAppendTwo
namespace Go.Proofs.Ytjkgafijifkfcaa
open Go.RowKit Go.Proofs.YtjkgafijifkfcaaW.PrintWords
set_option linter.unusedVariables false
set_option linter.unusedSimpArgs false
theorem fk_Val {w : World} {ok ok' : Nat → Prop} {x : Val} {c : List Value} (h : Kd.FK kVal w ok x c) : Kd.FK kVal w ok' x c := fun W' _ => by
  have h1 := Kd.FK_now h
  obtain rfl := kVal_open h1
  exact kVal_mk W' x
theorem fk_Val_mk (w : World) (ok : Nat → Prop) (x : Val) : Kd.FK kVal w ok x [.int .i64 x.kind, .int .i64 x.num, .string x.text] := fun W' _ => kVal_mk W' x
/-- a row of values in block g, and nowhere else -/
def RowV (w : World) (g cap : Nat) (l : List Val) : Prop := Kd.N kVal 36 w 0 (fun k => k = g) (.slice (some ⟨g, 0, none⟩) l.length cap) l
theorem RowV.of {w : World} {base : Nat} {ok : Nat → Prop} {v : Value} {l : List Val} (h : Kd.N kVal 36 w base ok v l) (hp : 0 < l.length) : ∃ g cap, v = .slice (some ⟨g, 0, none⟩) l.length cap ∧ base ≤ g ∧ g < w.heap.size ∧ RowV w g cap l := by
  obtain ⟨g, cap, rfl, h1, h2, _⟩ := Kd.N_form h hp
  refine ⟨g, cap, rfl, h1, h2, ?_⟩
  obtain ⟨h0, rows, hl, hR, hf⟩ := Kd.N_lower h (Nat.zero_le _)
  exact ⟨fun k hk => by simpa [Value.ownBlock] using hk.symm, rows, hl, hR, fun j x c hx hc => fk_Val (hf j x c hx hc)⟩
theorem RowV.step {w w' : World} {g cap : Nat} {l : List Val} (h : RowV w g cap l) (hb : w'.heap[g]? = w.heap[g]?) : RowV w' g cap l := Kd.N_step h (fun k hk _ => hk ▸ hb)
theorem RowV.lt {w : World} {g cap : Nat} {l : List Val} (h : RowV w g cap l) : g < w.heap.size := Kd.N_lt h g (by simp [Value.ownBlock])
theorem RowV.C {w : World} {g cap : Nat} {l : List Val} (h : RowV w g cap l) : l.length ≤ cap ∧ kVal.C w (some ⟨g, 0, none⟩) l.length l := (Kd.N_reads' h).2
theorem RowV.at {w : World} {g cap : Nat} {l : List Val} (h : RowV w g cap l) (i : Nat) (hi : i < l.length) : w.cell? ⟨g, i * 3 + 1, none⟩ = some (.int .i64 (rdVal l i).num) ∧ w.frozen? ⟨g, i * 3 + 1, none⟩ = false ∧ ∀ n : Int, RowV (w.setCell ⟨g, i * 3 + 1, none⟩ (.int .i64 n)) g cap (l.set i { rdVal l i with num := n }) := by
  obtain ⟨c, hcl, hK, hcc, hfr⟩ := Kd.N_elem h zVal (i : Int) (by omega) (by omega)
  rw [Int.toNat_natCast] at hK hcc hfr
  have hc := kVal_open (Kd.FK_now hK)
  have hrd : l.getD i zVal = rdVal l i := rfl
  rw [hrd] at hc
  refine ⟨hcc 1 _ (by rw [hc]; rfl), hfr 1, fun n => ?_⟩
  obtain ⟨h1, _⟩ := Kd.N_seg h (i : Int) (by omega) (by omega) (c := c) (seg := [.int .i64 n]) (j := 1) hcl (by rw [Int.toNat_natCast]; exact hcc) (by simp [kVal, Kd.iso, Kd.pair, Kd.int, Kd.string, Kd.scalar]) (x' := { rdVal l i with num := n }) (okp := fun _ => False) (by rw [hc]; exact fk_Val_mk _ _ { rdVal l i with num := n }) (fun _ h => h.elim)
  rw [Int.toNat_natCast] at h1
  have e : (l.set i { rdVal l i with num := n }).length = l.length := by simp
  unfold RowV
  rw [e]
  exact h1
theorem FrameO.mono_size {n : Nat} {g : Nat} {w w' : World} (h : FrameO (fun k => n ≤ k) g w w') (_ : n ≤ w.heap.size) : FrameO (fun k => n ≤ k) g w w' := h
def insEv (l : List Val) : Ev := ⟨3, 0, ⟨#[116]⟩, [], l, ⟨0, ⟨#[]⟩, ⟨[], 0⟩, ⟨⟨#[]⟩, 0, false⟩⟩⟩
theorem put_ins {O : Nat → Prop} (g : Nat) (w : World) (A : Option Addr) (n c : Nat) (l : List Val) (hn : n = l.length) (hc : l.length ≤ c) (hC : kVal.C w A l.length l) (hl : l.length ≤ 6) (hb : BufO O w g 5 0 []) (hB : ∀ k, w.heap.size ≤ k → O k) :
    Calls Try.prog 22 #[.pointer (some ⟨g, 0, none⟩), .agg #[.int .i64 3, .int .i64 0, .string ⟨#[116]⟩, .slice none 0 0, .slice A n c, .int .i64 0, .string ⟨#[]⟩, .slice none 0 0, .int .i64 0, .string ⟨#[]⟩, .int .i64 0, .bool false]] w fun e w' => ∃ B d, e = .returned (.tuple #[.slice B 0 d, .bool false, .int .i64 0]) ∧ BufO O w' g 5 0 [insEv l] ∧ FrameO O g w w' := by
  subst hn
  refine (put_callsO O g 5 0 [] (insEv l) _ w hb hB (kEv_mk w (insEv l) (A3 := none) (c3 := 0) (A4 := A) (c4 := c) (A7 := none) (c7 := 0) (by simp [insEv]) (Kd.C_nil _ _) hc hC (by simp [insEv]) (Kd.C_nil _ _)) ⟨by simp [insEv], by simp only [insEv]; omega, by simp [insEv]⟩ (by simp)).mono ?_
  rintro e w' ⟨v, rfl, h2, h3, h4⟩
  have hp : putR 5 0 [] (insEv l) = ⟨0, [insEv l], [], false, 0⟩ := by simp [putR, insEv]
  rw [hp] at h2 h3 ⊢
  obtain ⟨B, d, rfl⟩ := Kd.R_slice h2
  exact ⟨B, d, rfl, h3, h4⟩
theorem put_com {O : Nat → Prop} (g : Nat) (w : World) (l : List Val) (hb : BufO O w g 5 0 [insEv l]) (hB : ∀ k, w.heap.size ≤ k → O k) :
    Calls Try.prog 22 #[.pointer (some ⟨g, 0, none⟩), .agg #[.int .i64 7, .int .i64 0, .string ⟨#[]⟩, .slice none 0 0, .slice none 0 0, .int .i64 0, .string ⟨#[]⟩, .slice none 0 0, .int .i64 0, .string ⟨#[]⟩, .int .i64 0, .bool false]] w fun e w' => ∃ B d, e = .returned (.tuple #[.slice B 1 d, .bool true, .int .i64 0]) ∧ kEv.C w' B 1 [insEv l] ∧ FrameO O g w w' := by
  refine (put_callsO O g 5 0 [insEv l] (plainEv 7 0 ⟨#[]⟩ 0 ⟨#[]⟩) _ w hb hB (kEv_mk w (plainEv 7 0 ⟨#[]⟩ 0 ⟨#[]⟩) (A3 := none) (c3 := 0) (A4 := none) (c4 := 0) (A7 := none) (c7 := 0) (by simp [plainEv]) (Kd.C_nil _ _) (by simp [plainEv]) (Kd.C_nil _ _) (by simp [plainEv]) (Kd.C_nil _ _)) ⟨by simp [plainEv], by simp [plainEv], by simp [plainEv]⟩ (by simp)).mono ?_
  rintro e w' ⟨v, rfl, h2, h3, h4⟩
  have hp : putR 5 0 [insEv l] (plainEv 7 0 ⟨#[]⟩ 0 ⟨#[]⟩) = ⟨-1, [], [insEv l], true, 0⟩ := by simp [putR, plainEv]
  rw [hp] at h2 h3 ⊢
  obtain ⟨B, d, rfl⟩ := Kd.R_slice h2
  exact ⟨B, d, rfl, (Kd.N_reads' (Kd.R_N h2)).2.2, h4⟩
theorem c_one {w : World} {b : Nat} {x : Ev} {cs : Array Value} (hb : w.heap[b]? = some (.cells cs 49 (0, 0))) (hK : kEv.K w x cs.toList) : kEv.C w (some ⟨b, 0, none⟩) 1 [x] :=
  ⟨rfl, by decide, fun _ => ⟨_, rfl, fun j p hj => by
    obtain rfl : j = 0 := by
      rcases j with _ | j
      · rfl
      · simp at hj
    simp only [List.getElem?_cons_zero, Option.some.injEq] at hj
    subst hj
    refine ⟨cs.toList, kEv.K_len hK, hK, fun i u hu => ?_⟩
    have := cell_of_row w b i _ _ _ hb
    rw [show (⟨b, 0, none⟩ : Addr).add (0 * kEv.sz + i) = ⟨b, i, none⟩ from by simp [add_at]]
    rw [this]
    simpa using hu⟩⟩
theorem same07_one (A B : Option Addr) (c d : Nat) (x : Ev) (w : World) (hA : kEv.C w A 1 [x]) (hB : kEv.C w B 1 [x]) :
    Calls Try.prog 23 #[.slice A 1 c, .slice B 1 d] w fun e w' => e = .returned (.bool true) ∧ Below w.heap.size w w' := same07 A B c d [x] w hA hB
theorem ins_K {w : World} {A : Option Addr} {m c : Nat} {l : List Val} (hm : l.length = m) (hc : l.length ≤ c) (hC : kVal.C w A l.length l) : kEv.K w (insEv l) [.int .i64 3, .int .i64 0, .string ⟨#[116]⟩, .slice none 0 0, .slice A m c, .int .i64 0, .string ⟨#[]⟩, .slice none 0 0, .int .i64 0, .string ⟨#[]⟩, .int .i64 0, .bool false] := by
  subst hm
  exact kEv_mk w (insEv l) (A3 := none) (c3 := 0) (A4 := A) (c4 := c) (A7 := none) (c7 := 0) (by simp [insEv]) (Kd.C_nil _ _) hc hC (by simp [insEv]) (Kd.C_nil _ _)
end Go.Proofs.Ytjkgafijifkfcaa
