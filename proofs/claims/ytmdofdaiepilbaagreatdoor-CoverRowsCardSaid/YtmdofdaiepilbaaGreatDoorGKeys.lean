/- value.key at a number. Conditions: the row is the caller's own; lengths below 2^47. -/
import Derived.Test.YtmdofdaiepilbaaGreatDoorValKey
import Derived.Laws.Bits64
namespace Go.Proofs.YtmdofdaiepilbaaGreatDoor
open Go.RowKit Go.Proofs.YtmdofdaiepilbaaGreatDoorW.PrintWords Go.Proofs.YtmdofdaiepilbaaGreatDoorW.PrintMore
set_option linter.unusedVariables false
set_option linter.unusedSimpArgs false
theorem xor_top_nat (K : Nat) (h : K < 18446744073709551616) : K ^^^ 9223372036854775808 = (K + 9223372036854775808) % 18446744073709551616 := by
  have h1 : (K ^^^ 9223372036854775808) % 2 ^ 63 = K % 2 ^ 63 ^^^ 9223372036854775808 % 2 ^ 63 := Nat.xor_mod_two_pow ..
  have h2 : (K ^^^ 9223372036854775808) / 2 ^ 63 = K / 2 ^ 63 ^^^ 9223372036854775808 / 2 ^ 63 := Nat.xor_div_two_pow ..
  have e : (2 : Nat) ^ 63 = 9223372036854775808 := by decide
  rw [e] at h1 h2
  rw [Nat.mod_self, Nat.xor_zero] at h1
  rw [Nat.div_self (by decide)] at h2
  have hd : K / 9223372036854775808 = 0 ∨ K / 9223372036854775808 = 1 := by omega
  have h3 : K / 9223372036854775808 ^^^ 1 = 1 - K / 9223372036854775808 := by rcases hd with hd | hd <;> rw [hd] <;> rfl
  rw [h3] at h2
  omega
theorem xor_top (n : Int) : bits .xor .u64 (IntKind.u64.wrap n) 9223372036854775808 = topN n := by
  obtain ⟨K, hK, hlt⟩ : ∃ K : Nat, IntKind.u64.wrap n = (K : Int) ∧ K < 18446744073709551616 := ⟨(n % 18446744073709551616).toNat, by rw [IntKind.wrap_u64]; omega, by omega⟩
  have hK' := hK
  rw [IntKind.wrap_u64] at hK'
  rw [hK, show (9223372036854775808 : Int) = ((9223372036854775808 : Nat) : Int) from rfl, bits_xor_u64_nat K _ hlt (by decide), xor_top_nat K hlt]
  unfold topN
  omega
theorem range_snoc (n : Int) (m : Nat) : (List.range (m + 1)).map (beB n) = (List.range m).map (beB n) ++ [beB n m] := by rw [List.range_succ, List.map_append]; rfl
set_option maxRecDepth 100000 in
set_option maxHeartbeats 8000000 in
theorem key_int (b : Value) (n : Int) (s : ByteArray) (xs : List Int) (hn0 : -9223372036854775808 ≤ n) (hn1 : n ≤ 9223372036854775807) (w0 w : World) (base : Nat) (HO : kByt.R 5 w base (fun _ => True) b xs) (hb : Below base w0 w) (hle : base ≤ w.heap.size) (hl : xs.length + 10 ≤ 140737488355328) :
    Calls Tryz.prog 95 #[b, .agg #[.int .i64 2, .int .i64 n, .string s]] w (KeyTell w0 base (xs ++ keyV ⟨2, n, s⟩)) := by
  have HA := Aside0.mk (KAt.start HO hb hle #[.int .i64 2, .int .i64 n, .string s])
  clear HO hb hle
  have HT := Aside0.mk (show keyV ⟨2, n, s⟩ = 2 :: (List.range 8).map (beB n) by unfold keyV tailV; simp)
  go_enter Tryz.func95, Tryz.ntmps95
  go_upto_region 1 with fail
  generalize w.alloc (.cells #[.int .i64 2, .int .i64 n, .string s] 75) = W1 at *
  generalize w.heap.size = g at *
  have c0' := cell_of_row W1 _ 0 _ _ _ HA.out.box
  go_wp2_with (refine appK rfl (.tmp 7) (.tmp 11) rfl _ rfl rfl HA.out (by omega) ?_; intro v1 w1 h1; have c0 := cell_of_row w1 _ 0 _ _ _ h1.box; have H1 := Aside0.mk h1; clear h1)
  go_loopw [0, 25] (fun v i wr => ∃ m : Nat, m ≤ 8 ∧ i = .int .i64 m ∧ KAt w0 base g #[.int .i64 2, .int .i64 n, .string s] wr v (xs ++ 2 :: (List.range m).map (beB n))) (fun _ i _ => 8 - (intOf i).toNat)
  case atStart => exact ⟨0, by omega, rfl, H1.out⟩
  case round =>
    obtain ⟨m, hm, rfl, hat⟩ := hrel
    have t1 := cell_of_row wr _ 1 _ _ _ hat.box
    have HAt := Aside0.mk hat
    clear hat
    by_cases hlt : m < 8
    · have hlt' : (m : Int) < 8 := by omega
      have hw1 : wrap64 (7 - (m : Int)) = 7 - m := by unfold wrap64; omega
      have hw2 : wrap64 (8 * (7 - (m : Int))) = 8 * (7 - m) := by unfold wrap64; omega
      have HP := Aside0.mk (show bits .xor .u64 (IntKind.u64.wrap n) 9223372036854775808 / 2 ^ (8 * (7 - m)) % 256 = beB n m by unfold beB; rw [xor_top])
      go_wp2_with (refine appK rfl (.tmp 28) (.tmp 38) rfl _ rfl rfl HAt.out (by simp; omega) ?_; intro v2 w2 h2; rw [HP.out] at h2; have H2 := Aside0.mk h2; clear h2)
      go_roundw
      case rel => exact ⟨m + 1, by omega, by go_num, by have := H2.out; rw [range_snoc]; simpa using this⟩
      case measure => simp [intOf]; omega
    · obtain rfl : m = 8 := by omega
      go_wp2
      go_ret
      exact HAt.out.tell (by rw [HT.out])
end Go.Proofs.YtmdofdaiepilbaaGreatDoor

/- value.Key and schema.Key: the key of values that may be. Conditions: the values read so; the tables of unicode/utf8; few values. -/
namespace Go.Proofs.YtmdofdaiepilbaaGreatDoor
open Go.RowKit Go.Proofs.YtmdofdaiepilbaaGreatDoorW.PrintWords Go.Proofs.YtmdofdaiepilbaaGreatDoorW.PrintMore
set_option linter.unusedVariables false
set_option linter.unusedSimpArgs false
def i64Ok (n : Int) : Prop := -9223372036854775808 ≤ n ∧ n ≤ 9223372036854775807
theorem key_any (b : Value) (v : Val) (hn : i64Ok v.num) (xs : List Int) (w0 w : World) (base : Nat) (HO : kByt.R 5 w base (fun _ => True) b xs) (hb : Below base w0 w) (hle : base ≤ w.heap.size) (hl : xs.length + 2 * v.text.size + 10 ≤ 140737488355328) :
    Calls Tryz.prog 95 #[b, .agg #[.int .i64 v.kind, .int .i64 v.num, .string v.text]] w (KeyTell w0 base (xs ++ keyV v)) := by
  obtain ⟨k, n, s⟩ := v
  by_cases h2 : k = 2
  · subst h2; exact key_int b n s xs hn.1 hn.2 w0 w base HO hb hle (by simp at hl; omega)
  by_cases h34 : k = 3 ∨ k = 4
  · exact key_text b k n s xs h34 w0 w base HO hb hle hl
  exact key_plain b k n s xs ⟨h2, fun h => h34 (.inl h), fun h => h34 (.inr h)⟩ w0 w base HO hb hle (by omega)
def keyL (l : List Val) : List Int := l.flatMap keyV
theorem keyL_snoc (l : List Val) (m : Nat) (h : m < l.length) : keyL (l.take (m + 1)) = keyL (l.take m) ++ keyV (rdVal l m) := by
  unfold keyL
  rw [List.take_succ_eq_append_getElem h, List.flatMap_append, rdVal_get h]
  simp
theorem keyV_len (v : Val) : (keyV v).length ≤ 2 * v.text.size + 10 := by
  unfold keyV tailV
  have := escL_len v.text.data.toList
  have hs : v.text.data.toList.length = v.text.size := by simp
  split
  · simp
  · split
    · simp
    · split
      · simp; omega
      · simp
theorem valB_text {v : Val} (h : valB v = true) : v.text.size ≤ 4096 := by
  unfold valB at h
  split at h
  · simp only [Bool.and_eq_true, decide_eq_true_eq] at h; omega
  · split at h
    · simp only [Bool.and_eq_true, decide_eq_true_eq] at h; omega
    · split at h
      · simp only [decide_eq_true_eq] at h; omega
      · split at h
        · simp only [Bool.and_eq_true, decide_eq_true_eq] at h; omega
        · simp only [Bool.and_eq_true, decide_eq_true_eq] at h; omega
theorem keyL_len {l : List Val} (h : ∀ v ∈ l, valB v = true) : (keyL l).length ≤ 8210 * l.length := by
  induction l with
  | nil => simp [keyL]
  | cons a l ih =>
    have h1 := keyV_len a
    have h2 := valB_text (h a (List.mem_cons_self ..))
    have h3 := ih (fun v hv => h v (List.mem_cons_of_mem _ hv))
    have h4 : keyL (a :: l) = keyV a ++ keyL l := by unfold keyL; rw [List.flatMap_cons]
    rw [h4, List.length_append, List.length_cons]
    omega
def numOk (l : List Val) : Prop := ∀ v ∈ l, i64Ok v.num
/-- what Key tells: all values may be -/
def keyS (l : List Val) : ByteArray := strOfNums (keyL l)
theorem conv_str (w : World) (A : Option Addr) (n c : Nat) (l : List Int) (hn : n = l.length) (h : kByt.C w A l.length l) : (convert 26 9 (.slice A n c)).run Tryz.prog w = .ok (.string (strOfNums l)) w := by
  subst hn
  exact Kd.C_string Tryz.underlying26 Tryz.underlying5 Tryz.underlying9 h
theorem good_to {l : List Val} (h : ∀ v ∈ l, valB v = true) {k : Nat} (hk : k < l.length) : valB (rdVal l k) = true := by rw [rdVal_get hk]; exact h _ (List.getElem_mem hk)
theorem num_at {l : List Val} (h : numOk l) {k : Nat} (hk : k < l.length) : i64Ok (rdVal l k).num := by rw [rdVal_get hk]; exact h _ (List.getElem_mem hk)
set_option maxRecDepth 100000 in
set_option maxHeartbeats 8000000 in
theorem valKey_calls (R : Option Addr) (cr : Nat) (l : List Val) (w : World) (hR : kVal.C w R l.length l) (hT : TabsU w) (hv : ∀ v ∈ l, valB v = true) (hn : numOk l) (hlen : l.length ≤ 1000000) :
    Calls Tryz.prog 79 #[.slice R l.length cr] w fun e w' => e = .returned (.tuple #[.string (keyS l), .int .i64 0]) ∧ Below w.heap.size w w' := by
  have HR := Aside0.mk hR
  have HT := Aside0.mk hT
  have HV := Aside0.mk hv
  have HN := Aside0.mk hn
  have HL := Aside0.mk (fun m => keyL_len (l := l.take m) (fun v hv' => hv v (List.mem_of_mem_take hv')))
  clear hR hT hv hn
  go_enter Tryz.func79, Tryz.ntmps79
  go_wp2
  go_loopw [4, 9] (fun v i wr => ∃ m : Nat, m ≤ l.length ∧ i = .int .i64 m ∧ kByt.R 5 wr w.heap.size (fun _ => True) v (keyL (l.take m)) ∧ Below w.heap.size w wr) (fun _ i _ => l.length - (intOf i).toNat)
  case atStart => exact ⟨0, by omega, rfl, by rw [List.take_zero]; exact Kd.R_nil _ _ _ _ _, Below.refl _ _⟩
  case round =>
    obtain ⟨m, hm, rfl, hrow, hbel⟩ := hrel
    have hll := HL.out m
    rw [List.length_take] at hll
    by_cases hlt : m < l.length
    · obtain ⟨bd, eB, f0, f1, f2⟩ := at_Val HR.out m hlt
      subst eB
      replace f0 := pw_cell_below hbel f0
      replace f1 := pw_cell_below hbel f1
      replace f2 := pw_cell_below hbel f2
      have hgood := good_to HV.out hlt
      have htx := valB_text hgood
      have hsn := keyL_snoc l m hlt
      have hnum := num_at HN.out hlt
      have HBl := Aside0.mk hbel
      have hle : w.heap.size ≤ wr.heap.size := hbel.size
      have HM := Aside0.mk (fun (W : World) (hb : Below wr.heap.size wr W) => valMay_calls (rdVal l m).kind (rdVal l m).num (rdVal l m).text W (HT.out.below (bmore HBl.out hb)))
      change Aside0 (∀ W, _ → Calls _ _ _ _ (fun e w' => e = .returned (.bool (valB (rdVal l m))) ∧ _)) at HM
      rw [hgood] at HM
      have HK := Aside0.mk (fun (W : World) (b : Value) (hrow : kByt.R 5 W w.heap.size (fun _ => True) b (keyL (l.take m))) (hb : Below w.heap.size w W) (hle : w.heap.size ≤ W.heap.size) => key_any b (rdVal l m) hnum (keyL (l.take m)) w W w.heap.size hrow hb hle (by omega))
      have HRow := Aside0.mk hrow
      have HSn := Aside0.mk hsn
      clear hgood hnum hsn hrow hbel
      generalize rdVal l m = x at *
      have HX0 := Aside0.mk (fun (W : World) (hb : Below (wr.alloc (.cells #[.int .i64 x.kind, .int .i64 x.num, .string x.text] 75)).heap.size (wr.alloc (.cells #[.int .i64 x.kind, .int .i64 x.num, .string x.text] 75)) W) => (show W.cell? ⟨wr.heap.size, 0, none⟩ = some (.int .i64 x.kind) ∧ W.cell? ⟨wr.heap.size, 1, none⟩ = some (.int .i64 x.num) ∧ W.cell? ⟨wr.heap.size, 2, none⟩ = some (.string x.text) from
        ⟨pw_cell_below hb (cell_of_row _ _ 0 _ _ _ (heap_alloc_new _ _)), pw_cell_below hb (cell_of_row _ _ 1 _ _ _ (heap_alloc_new _ _)), pw_cell_below hb (cell_of_row _ _ 2 _ _ _ (heap_alloc_new _ _))⟩))
      have HB0 := Aside0.mk (show Below wr.heap.size wr (wr.alloc (.cells #[.int .i64 x.kind, .int .i64 x.num, .string x.text] 75)) from below_alloc (Below.refl _ _) _)
      go_wp2_with (first
        | (go_at_call 94; (with_reducible refine (HM.out _ HB0.out).mono ?_); rintro e w2 ⟨rfl, hb1⟩; obtain ⟨p0, p1, p2⟩ := HX0.out _ hb1; have HB2 := Aside0.mk (bmore HB0.out hb1); clear hb1)
        | (go_at_call 95; (with_reducible refine (HK.out _ _ (Kd.R_step HRow.out (fun k _ hk => HB2.out.block k hk)) (bmore HBl.out HB2.out) (by have := HB2.out.size; omega)).mono ?_); rintro e w3 ⟨v3, rfl, h3, hb3⟩; have H3 := Aside0.mk h3; have HB3 := Aside0.mk hb3; clear h3 hb3))
      go_roundw
      case rel => exact ⟨m + 1, by omega, by go_num, by rw [HSn.out]; exact H3.out, HB3.out⟩
      case measure => simp [intOf]; omega
    · obtain rfl : m = l.length := by omega
      rw [List.take_of_length_le (Nat.le_refl _)] at hrow
      obtain ⟨A9, c9, rfl⟩ := Kd.R_slice hrow
      have hcv := conv_str wr A9 (keyL l).length c9 (keyL l) rfl (Kd.F_now (Kd.R_F hrow))
      clear hrow
      go_wp2
      exact bodyPost_ret (v := .tuple #[.string (strOfNums (keyL l)), .int .i64 0]) (by simp [results, Tryz.results79, go_sem]) rfl ⟨rfl, hbel⟩
end Go.Proofs.YtmdofdaiepilbaaGreatDoor

/- schema.Key: a row's key. Conditions: rows and columns read so; the keys are columns; the tables of unicode/utf8. -/
namespace Go.Proofs.YtmdofdaiepilbaaGreatDoor
open Go.RowKit Go.Proofs.YtmdofdaiepilbaaGreatDoorW.PrintWords Go.Proofs.YtmdofdaiepilbaaGreatDoorW.PrintMore
set_option linter.unusedVariables false
set_option linter.unusedSimpArgs false
theorem cutRow (A : Option Addr) (n c : Nat) (h : Int) (h0 : 0 ≤ h) (h2 : h ≤ c) (W : World) : (Instr.slice 49 (.slice A n c) none (some (.int .i64 h)) none).run Tryz.prog W = .ok (.slice A h.toNat c) W := by
  have hel : Tryz.prog.elem 49 = 75 := by kernel_rfl
  have hu : Tryz.prog.underlying 49 = some (.slice (Tryz.prog.elem 49)) := by rw [hel]; exact Tryz.underlying49
  rw [run_slice_h W 49 A n c hu .i64 h h0 h2, hel]
  have hz : (sizeOf 75).run Tryz.prog W = .ok 3 W := by kernel_rfl
  rw [hz]
  simp only [sliced, Result.andThen]
  cases A with
  | none => simp
  | some a => obtain ⟨k, o, i⟩ := a; cases i <;> simp [Addr.add]
def keyE (l : List Col) (ks : Int) (row : List Val) : ByteArray × Int := if beginB l row ks then (keyS (row.take ks.toNat), 0) else (⟨#[]⟩, 9)
theorem beginB_good {l : List Col} {row : List Val} {ks : Int} (h : beginB l row ks = true) : ks ≤ (row.length : Int) ∧ ∀ v ∈ row.take ks.toNat, valB v = true := by
  unfold beginB at h
  simp only [Bool.and_eq_true, decide_eq_true_eq, List.all_eq_true] at h
  refine ⟨h.1, fun v hv => ?_⟩
  obtain ⟨i, hi, rfl⟩ := List.mem_iff_getElem.1 hv
  rw [List.length_take] at hi
  have := h.2 i (List.mem_range.2 (by omega))
  unfold fitB at this
  rw [Bool.and_eq_true] at this
  rw [List.getElem_take, ← rdVal_get (by omega)]
  exact this.1
set_option maxRecDepth 100000 in
set_option maxHeartbeats 8000000 in
theorem schKey_calls (A : Option Addr) (c : Nat) (l : List Col) (ks : Int) (hk0 : 0 ≤ ks) (hk1 : ks ≤ (l.length : Int)) (hk2 : ks ≤ 1000000) (R : Option Addr) (cr : Nat) (row : List Val) (hcr : row.length ≤ cr) (w : World) (hC : kCol.C w A l.length l) (hR : kVal.C w R row.length row) (hT : TabsU w) (hn : numOk row) :
    Calls Tryz.prog 57 #[.agg #[.slice A l.length c, .int .i64 ks], .slice R row.length cr] w fun e w' => e = .returned (.tuple #[.string (keyE l ks row).1, .int .i64 (keyE l ks row).2]) ∧ Below w.heap.size w w' := by
  have HBg := Aside0.mk (fun (W : World) (hb : Below w.heap.size w W) => begins_calls A c l ks R cr row ks hk1 W (Kd.C_below hC hb) (Kd.C_below hR hb) (hT.below hb))
  have HB0 := Aside0.mk (show Below w.heap.size w (w.alloc (.cells #[.slice A l.length c, .int .i64 ks] 43)) from below_alloc (Below.refl _ _) _)
  have HX0 := Aside0.mk (fun (W : World) (hb : Below (w.alloc (.cells #[.slice A l.length c, .int .i64 ks] 43)).heap.size (w.alloc (.cells #[.slice A l.length c, .int .i64 ks] 43)) W) => (show W.cell? ⟨w.heap.size, 1, none⟩ = some (.int .i64 ks) from pw_cell_below hb (cell_of_row _ _ 1 _ _ _ (heap_alloc_new _ _))))
  cases hbg : beginB l row ks
  · have HE := Aside0.mk (show keyE l ks row = (⟨#[]⟩, 9) by unfold keyE; rw [hbg]; rfl)
    rw [hbg] at HBg
    clear hbg
    go_enter Tryz.func57, Tryz.ntmps57
    go_wp2_with (go_at_call 78; (with_reducible refine (HBg.out _ HB0.out).mono ?_); rintro e w2 ⟨rfl, hb1⟩; have p1 := HX0.out _ hb1; have HB2 := Aside0.mk (bmore HB0.out hb1); clear hb1)
    exact bodyPost_ret (v := .tuple #[.string ⟨#[]⟩, .int .i64 9]) (by simp [results, Tryz.results57, go_sem]) rfl ⟨by rw [HE.out], HB2.out⟩
  · obtain ⟨hg1, hg2⟩ := beginB_good hbg
    have HE := Aside0.mk (show keyE l ks row = (keyS (row.take ks.toNat), 0) by unfold keyE; rw [hbg]; rfl)
    rw [hbg] at HBg
    have hlt : ks.toNat ≤ row.length := by omega
    have hcut := fun W => cutRow R row.length cr ks hk0 (by omega) W
    have hC2 : kVal.C w R (row.take ks.toNat).length (row.take ks.toNat) := Kd.C_take hR hlt
    have hlk : (row.take ks.toNat).length = ks.toNat := by rw [List.length_take]; omega
    have HK := Aside0.mk (fun (W : World) (hb : Below w.heap.size w W) => valKey_calls R cr (row.take ks.toNat) W (Kd.C_below hC2 hb) (hT.below hb) hg2 (fun v hv => hn v (List.mem_of_mem_take hv)) (by omega))
    rw [hlk] at HK
    clear hbg hg2 hC2 hn hT hC hR hlk
    generalize keyS (row.take ks.toNat) = ky at *
    go_enter Tryz.func57, Tryz.ntmps57
    go_wp2_with (first
      | (go_at_call 78; (with_reducible refine (HBg.out _ HB0.out).mono ?_); rintro e w2 ⟨rfl, hb1⟩; have p1 := HX0.out _ hb1; have HB2 := Aside0.mk (bmore HB0.out hb1); clear hb1)
      | (go_at_call 79; (with_reducible refine (HK.out _ HB2.out).mono ?_); rintro e w3 ⟨rfl, hb1⟩; have HB3 := Aside0.mk (bmore HB2.out hb1); clear hb1))
    exact bodyPost_ret (v := .tuple #[.string ky, .int .i64 0]) (by simp [results, Tryz.results57, go_sem]) rfl ⟨by rw [HE.out], HB3.out⟩
end Go.Proofs.YtmdofdaiepilbaaGreatDoor
