/- The law CrcLinear comes to true for every three slices of bytes. Conditions: the slices read as bytes. -/
import Derived.Test.YtjkgafijifkfcaaAppend
import Derived.Test.YtjkgafijifkfcaaSums
import Derived.Test.YtjkgafijifkfcaaWMore
import Derived.Deep.RegionHeld3
namespace Go.Proofs.Ytjkgafijifkfcaa
open Go.RowKit Go.Proofs.YtjkgafijifkfcaaW.PrintWords Go.Proofs.YtjkgafijifkfcaaW.PrintMore
set_option linter.unusedVariables false
set_option linter.unusedSimpArgs false
theorem min4 (ats : Array TypeId) (ty : TypeId) (x y z : Nat) : Builtin.min_ ats ty #[.int .i64 (x : Int), .int .i64 (y : Int), .int .i64 (z : Int), .int .i64 200] = pure (.int .i64 ((min (min (min x y) z) 200 : Nat) : Int)) := by
  rw [min_four]
  simp only [min2_int, pure_bind]
  congr 2
  omega

def x3 (a b c : List Int) (k : Nat) : List Int := (List.range k).map fun i : Nat => Go.bits .xor .u8 (Go.bits .xor .u8 (rd a i) (rd b i)) (rd c i)
theorem x3_succ (a b c : List Int) (k : Nat) : x3 a b c (k + 1) = x3 a b c k ++ [Go.bits .xor .u8 (Go.bits .xor .u8 (rd a k) (rd b k)) (rd c k)] := by
  simp [x3, List.range_succ]
theorem x3_length (a b c : List Int) (k : Nat) : (x3 a b c k).length = k := by simp [x3]

theorem xor64 (a b : Nat) (ha : a < 4294967296) (hb : b < 4294967296) : Go.bits .xor .i64 (a : Int) (b : Int) = ((a ^^^ b : Nat) : Int) := by
  have hx : a ^^^ b < 2 ^ 32 := Nat.xor_lt_two_pow (by omega) (by omega)
  have ea : (BitVec.ofInt 64 (a : Int)).toNat = a := by rw [BitVec.ofInt_natCast, BitVec.toNat_ofNat]; omega
  have eb : (BitVec.ofInt 64 (b : Int)).toNat = b := by rw [BitVec.ofInt_natCast, BitVec.toNat_ofNat]; omega
  show IntKind.i64.wrap ((BitVec.ofInt 64 (a : Int) ^^^ BitVec.ofInt 64 (b : Int)).toNat : Int) = _
  rw [BitVec.toNat_xor, ea, eb, IntKind.wrap_i64]
  omega
theorem rd_byte {l : List Int} (h : Crc.Bytes l) (k : Nat) (hk : k < l.length) : 0 ≤ rd l k ∧ rd l k < 256 := by
  have : rd l k = l[k] := by simp [rd, hk]
  rw [this]
  exact h _ (List.getElem_mem hk)
theorem xor8 (x y : Int) (hx : 0 ≤ x ∧ x < 256) (hy : 0 ≤ y ∧ y < 256) : BitVec.ofInt 32 (Go.bits .xor .u8 x y) = BitVec.ofInt 32 x ^^^ BitVec.ofInt 32 y ∧ 0 ≤ Go.bits .xor .u8 x y ∧ Go.bits .xor .u8 x y < 256 := by
  obtain ⟨a, rfl⟩ := Int.eq_ofNat_of_zero_le hx.1
  obtain ⟨b, rfl⟩ := Int.eq_ofNat_of_zero_le hy.1
  rw [u8_xor_nat a b (by omega) (by omega)]
  have hl : a ^^^ b < 2 ^ 8 := Nat.xor_lt_two_pow (by omega) (by omega)
  refine ⟨?_, by omega, by omega⟩
  apply BitVec.eq_of_toNat_eq
  rw [BitVec.toNat_xor, ofInt_byte _ (by omega), ofInt_byte _ hx, ofInt_byte _ hy]
  rfl
theorem x3_bytes {a b c : List Int} (ha : Crc.Bytes a) (hb : Crc.Bytes b) (hc : Crc.Bytes c) (k : Nat) (h1 : k ≤ a.length) (h2 : k ≤ b.length) (h3 : k ≤ c.length) : Crc.Bytes (x3 a b c k) := by
  intro x hx
  simp only [x3, List.mem_map, List.mem_range] at hx
  obtain ⟨i, hi, rfl⟩ := hx
  exact (xor8 _ _ (xor8 _ _ (rd_byte ha i (by omega)) (rd_byte hb i (by omega))).2 (rd_byte hc i (by omega))).2
theorem x3_more {a b c : List Int} (ha : Crc.Bytes a) (hb : Crc.Bytes b) (hc : Crc.Bytes c) (k : Nat) (h1 : k ≤ a.length) (h2 : k ≤ b.length) (h3 : k ≤ c.length) :
    Crc.more 0 (x3 a b c k) = Go.bits .xor .i64 (Go.bits .xor .i64 (Crc.more 0 (a.take k)) (Crc.more 0 (b.take k))) (Crc.more 0 (c.take k)) := by
  have hl := x3_length a b c k
  rw [Crc.more_xor3 (a.take k) (b.take k) (c.take k) (x3 a b c k) (by simp; omega) (by simp; omega) (by simp; omega)]
  · unfold Crc.more
    rw [xor64 _ _ (u32_of _) (u32_of _), xor64 _ _ (by rw [← BitVec.toNat_xor]; exact u32_of _) (u32_of _), BitVec.toNat_xor, BitVec.toNat_xor]
  · intro i hi
    rw [hl] at hi
    have e : (x3 a b c k).getD i 0 = Go.bits .xor .u8 (Go.bits .xor .u8 (rd a i) (rd b i)) (rd c i) := by simp [x3, List.getD_eq_getElem?_getD, hi]
    have g : ∀ l : List Int, (l.take k).getD i 0 = rd l i := fun l => by simp [rd, List.getD_eq_getElem?_getD, List.getElem?_take, hi]
    have q := xor8 _ _ (rd_byte ha i (by omega)) (rd_byte hb i (by omega))
    rw [e, g, g, g, (xor8 _ _ q.2 (rd_byte hc i (by omega))).1, q.1]
set_option maxHeartbeats 4000000 in
theorem linear_any (w : World) (A : Option Addr) (ca : Nat) (a : List Int) (hra : Kd.C (Kd.int .u8) w A a.length a) (hca : a.length ≤ ca) (hba : Crc.Bytes a)
    (B : Option Addr) (cb : Nat) (b : List Int) (hrb : Kd.C (Kd.int .u8) w B b.length b) (hcb : b.length ≤ cb) (hbb : Crc.Bytes b)
    (C : Option Addr) (cc : Nat) (c : List Int) (hrc : Kd.C (Kd.int .u8) w C c.length c) (hcc : c.length ≤ cc) (hbc : Crc.Bytes c) :
    Calls Try.prog 4 #[.slice A a.length ca, .slice B b.length cb, .slice C c.length cc] w fun e w' => e = .returned (.bool true) ∧ Below w.heap.size w w' := by
  have hla : a.length ≤ 9223372036854775807 := hra.2.1
  have hlb : b.length ≤ 9223372036854775807 := hrb.2.1
  have hlc : c.length ≤ 9223372036854775807 := hrc.2.1
  have HA := Aside0.mk hra
  have HB := Aside0.mk hrb
  have HC := Aside0.mk hrc
  have HAB := Aside0.mk hba
  have HBB := Aside0.mk hbb
  have HCB := Aside0.mk hbc
  clear hra hrb hrc hba hbb hbc
  generalize hn : min (min (min a.length b.length) c.length) 200 = n
  have hm4 : ∀ (ats : Array TypeId) (ty : TypeId), Builtin.min_ ats ty #[.int .i64 (a.length : Int), .int .i64 (b.length : Int), .int .i64 (c.length : Int), .int .i64 200] = pure (.int .i64 (n : Int)) := fun ats ty => by rw [min4, hn]
  have hna : n ≤ a.length := by omega
  have hnb : n ≤ b.length := by omega
  have hnc : n ≤ c.length := by omega
  have hn2 : n ≤ 200 := by omega
  clear hn
  go_enter Try.func4, Try.ntmps4
  go_wp2
  clear hm4
  go_loopw [8, 9] (fun v i wr => ∃ k : Nat, k ≤ n ∧ i = .int .i64 k ∧ Kd.R (Kd.int .u8) 5 wr w.heap.size (fun _ => True) v (x3 a b c k) ∧ Below w.heap.size w wr) (fun _ i _ => n - (intOf i).toNat)
  case atStart => exact ⟨0, by omega, rfl, Kd.R_nil _ _ _ _ _, Below.refl _ _⟩
  case round =>
    obtain ⟨k, hk, rfl, hown, hbel⟩ := hrel
    by_cases hlt : k < n
    · obtain ⟨ada, ea, hxa⟩ := Kd.at_int HA.out (k : Int) (by omega) (by omega)
      obtain ⟨adb, eb, hxb⟩ := Kd.at_int HB.out (k : Int) (by omega) (by omega)
      obtain ⟨adc, ec, hxc⟩ := Kd.at_int HC.out (k : Int) (by omega) (by omega)
      cases ea
      cases eb
      cases ec
      rw [Int.toNat_natCast] at hxa hxb hxc
      have hka : (k : Int) < (a.length : Int) := by omega
      have hkb : (k : Int) < (b.length : Int) := by omega
      have hkc : (k : Int) < (c.length : Int) := by omega
      have hk0 : (0 : Int) ≤ (k : Int) := by omega
      have hX := Aside0.mk (x3_succ a b c k)
      have hXl := Aside0.mk (x3_length a b c k)
      generalize hpa : rd a k = pa at *
      generalize hpb : rd b k = pb at *
      generalize hpc : rd c k = pc at *
      clear hpa hpb hpc
      have QA : Aside0 (∀ W, Below w.heap.size w W → W.cell? (ada.add k) = some (.int .u8 pa) ∧ W.cell? (adb.add k) = some (.int .u8 pb) ∧ W.cell? (adc.add k) = some (.int .u8 pc)) := ⟨fun W h => ⟨pw_cell_below h hxa, pw_cell_below h hxb, pw_cell_below h hxc⟩⟩
      have hq := QA.out _ hbel
      clear hxa hxb hxc
      have HO := Aside0.mk hown
      clear hown
      obtain ⟨wo, rfl⟩ : ∃ wo : World, wo = wr := ⟨_, rfl⟩
      have HBel := Aside0.mk hbel
      go_wp2
      go_region_held3 (fun W => W.cell? (ada.add k) = some (.int .u8 pa) ∧ W.cell? (adb.add k) = some (.int .u8 pb) ∧ W.cell? (adc.add k) = some (.int .u8 pc)) (go_keep)
        (first
        | (refine app1_step w.heap.size (by rfl) (.tmp 22) (.tmp 37) rfl _ (x3 a b c k) _ rfl rfl (Kd.R_below HO.out (Below.drew (Below.refl _ _))) HBel.out.drew HBel.out.size (by have := hXl.out; omega) ?_; intro v1 w1 ho1 hb1 hg1; have hq1 := QA.out _ hb1))
      go_wp2
      go_roundw
      case rel => exact ⟨k + 1, by omega, by go_num, by rw [hX.out]; assumption, by assumption⟩
      case measure => simp [intOf]; omega
    · obtain rfl : k = n := by omega
      obtain ⟨AX, cX, rfl, hcX, hCX⟩ := Kd.R_reads hown
      rw [x3_length] at hCX hcX
      rw [x3_length]
      have e1 : (Crc.more 0 (x3 a b c k) == Go.bits .xor .i64 (Go.bits .xor .i64 (Crc.more 0 (a.take k)) (Crc.more 0 (b.take k))) (Crc.more 0 (c.take k))) = true := by
        rw [x3_more HAB.out HBB.out HCB.out k hna hnb hnc]; exact beq_self_eq_true _
      have hX : Aside0 (∀ W, Below wr.heap.size wr W → Kd.C (Kd.int .u8) W AX k (x3 a b c k)) := ⟨fun W h => Kd.C_below hCX h⟩
      have hXB : Aside0 (Crc.Bytes (x3 a b c k)) := ⟨x3_bytes HAB.out HBB.out HCB.out k hna hnb hnc⟩
      have KA : Aside0 (∀ W, Below wr.heap.size wr W → Kd.C (Kd.int .u8) W A k (a.take k)) := ⟨fun W h => C_takeN (Kd.C_below HA.out (hbel.trans (h.mono hbel.size))) k hna⟩
      have KB : Aside0 (∀ W, Below wr.heap.size wr W → Kd.C (Kd.int .u8) W B k (b.take k)) := ⟨fun W h => C_takeN (Kd.C_below HB.out (hbel.trans (h.mono hbel.size))) k hnb⟩
      have KC : Aside0 (∀ W, Below wr.heap.size wr W → Kd.C (Kd.int .u8) W C k (c.take k)) := ⟨fun W h => C_takeN (Kd.C_below HC.out (hbel.trans (h.mono hbel.size))) k hnc⟩
      have HBel := Aside0.mk hbel
      generalize x3 a b c k = X at *
      generalize hta : a.take k = ta at *
      generalize htb : b.take k = tb at *
      generalize htc : c.take k = tc at *
      have HTA : Aside0 (Crc.Bytes ta) := ⟨by rw [← hta]; exact Bytes_take HAB.out _⟩
      have HTB : Aside0 (Crc.Bytes tb) := ⟨by rw [← htb]; exact Bytes_take HBB.out _⟩
      have HTC : Aside0 (Crc.Bytes tc) := ⟨by rw [← htc]; exact Bytes_take HCB.out _⟩
      have k0 : (0 : Int) ≤ (k : Int) := by omega
      have k1 : (k : Int) ≤ (ca : Int) := by omega
      have k2 : (k : Int) ≤ (cb : Int) := by omega
      have k3 : (k : Int) ≤ (cc : Int) := by omega
      clear hta htb htc hCX hown hbel
      go_wp2
      go_region_held3 (fun W => Below wr.heap.size wr W) (first | exact Below.refl _ _ | assumption | exact below_step (by assumption) (by assumption) | exact Below.drew (Below.refl _ _) | go_keep)
        (first
        | (go_at_call 17; (with_reducible refine (sumN AX cX k X _ (hX.out _ (by assumption)) hXB.out).mono ?_); rintro e w1 ⟨rfl, hb1⟩)
        | (go_at_call 17; (with_reducible refine (sumN A ca k ta _ (KA.out _ (by assumption)) HTA.out).mono ?_); rintro e w1 ⟨rfl, hb1⟩)
        | (go_at_call 17; (with_reducible refine (sumN B cb k tb _ (KB.out _ (by assumption)) HTB.out).mono ?_); rintro e w1 ⟨rfl, hb1⟩)
        | (go_at_call 17; (with_reducible refine (sumN C cc k tc _ (KC.out _ (by assumption)) HTC.out).mono ?_); rintro e w1 ⟨rfl, hb1⟩)
        | (go_at_call 20; (with_reducible refine (lives_calls _).mono ?_); rintro e w1 ⟨rfl, hb1⟩))
      go_wp2
      go_ret
      exact ⟨rfl, HBel.out.trans (Below.mono (by assumption) HBel.out.size)⟩
end Go.Proofs.Ytjkgafijifkfcaa
